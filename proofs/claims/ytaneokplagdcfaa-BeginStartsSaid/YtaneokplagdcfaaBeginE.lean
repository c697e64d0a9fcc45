/- The walks of begin's refuse, op by op (the others). -/
import Derived.Test.YtaneokplagdcfaaBeginD
import Derived.Deep.RegionHeld3
namespace Go.Proofs.Ytaneokplagdcfaa
open Go.RowKit
theorem below_alloc {w w' : World} (h : Below w.heap.size w w') (o : Obj) : Below w.heap.size w (w'.alloc o) := h.alloc h.size o
def wordsE (a b : Int) : Int := if wordsB a b then 0 else 1
theorem wordsE_any (a b : Int) (w : World) : Calls Try.prog 56 #[.int .i64 a, .int .i64 b] w fun r w' => (∃ n, r = .returned (.tuple #[.int .i64 n, .int .i64 (wordsE a b)])) ∧ w' = w := words_any a b w
section
variable (P : Pln) (A : Option Addr) (k : Nat) (l : List Ent)

set_option maxRecDepth 100000 in
set_option maxHeartbeats 1000000 in
theorem refuse5 (cr ch cv ca cb cc h v : Int) (w : World) (a : AskIn w P A k l ⟨5, cr, ch, cv, ca, cb, cc⟩ h v) :
    Calls Try.prog 26 #[askVal P A k l ⟨5, cr, ch, cv, ca, cb, cc⟩ h v] w fun r w' => r = .returned (.int .i64 (beginS P.s l ⟨5, cr, ch, cv, ca, cb, cc⟩ h v).1) ∧ Below w.heap.size w w' := by
  have HA := Lib.hid a.box
  have B : Below w.heap.size w (w.alloc (.cells #[.int .i64 P.s, .int .i64 P.t, .int .i64 P.i, .int .i64 P.h, .slice A l.length k, .int .u8 5, .int .u8 cr, .int .u8 ch, .int .u8 cv, .int .i64 ca, .int .i64 cb, .int .i64 cc, .int .u64 h, .int .u64 v] 71)) := by go_grown
  have HS := Lib.hid (fun W lo (b : Ask W w.heap.size P A k l ⟨5, cr, ch, cv, ca, cb, cc⟩ h v) => askScope_any w.heap.size P A k l ⟨5, cr, ch, cv, ca, cb, cc⟩ h v W lo b)
  have HRe := Lib.hid (fun W (b : Ask W w.heap.size P A k l ⟨5, cr, ch, cv, ca, cb, cc⟩ h v) => askReach_any w.heap.size P A k l ⟨5, cr, ch, cv, ca, cb, cc⟩ h v W b)
  have HD := Lib.hid (fun W (b : Ask W w.heap.size P A k l ⟨5, cr, ch, cv, ca, cb, cc⟩ h v) => askDeep_any w.heap.size P A k l ⟨5, cr, ch, cv, ca, cb, cc⟩ h v W b)
  have HCk := Lib.hid (fun W x x0 x1 (b : Ask W w.heap.size P A k l ⟨5, cr, ch, cv, ca, cb, cc⟩ h v) => askCheck_any w.heap.size P A k l ⟨5, cr, ch, cv, ca, cb, cc⟩ h v W x x0 x1 b)
  have h0 := a.h0
  have h1 := a.h1
  have v0 := a.v0
  have v1 := a.v1
  obtain ⟨⟨k0, k1, k2, k3, k4⟩, ⟨k5, k6, k7, k8, k9, k10, k11⟩, k12, k13⟩ := HA.out.cells
  have z0 := lt_of_heap HA.out.row
  clear a
  have HP := Lib.hid (pop_any A k l _ HA.out.len HA.out.cap HA.out.ents)
  obtain ⟨xs, Hxs⟩ : ∃ x : Int, Hid ((pop l).2.1.1 = x) := ⟨_, Lib.hid rfl⟩
  obtain ⟨xb, Hxb⟩ : ∃ x : Bool, Hid ((pop l).2.1.2 = x) := ⟨_, Lib.hid rfl⟩
  obtain ⟨xe, Hxe⟩ : ∃ x : Int, Hid ((pop l).2.2 = x) := ⟨_, Lib.hid rfl⟩
  go_enter Try.func26, Try.ntmps26
  go_wp2_with fail
  refine HP.out.mono ?_
  rintro r w1 ⟨v1, rfl, A1, c1, rfl, hc1, hcs1, -, hb⟩
  rw [Hxs.out, Hxb.out, Hxe.out]
  replace B := below_only B hb
  have z1 := Nat.lt_of_lt_of_le z0 hb.size
  clear hcs1 hc1 hb k0 k1 k2 k3 k4 k5 k6 k7 k8 k9 k10 k11 k12 k13
  go_wp2_with fail
  go_ret
  exact ⟨by
    rw [← Hxe.out]
    simp only [beginS, pop]
    cases l.getLast? with
    | none => rfl
    | some e => obtain ⟨s, b⟩ := e; cases b <;> rfl, by first | exact B | go_grown⟩

set_option maxRecDepth 100000 in
set_option maxHeartbeats 1000000 in
theorem refuse7t (cr ch cv ca cb cc h v : Int) (w : World) (a : AskIn w P A k l ⟨7, cr, ch, cv, ca, cb, cc⟩ h v) (hn : rgOk cr = true) :
    Calls Try.prog 26 #[askVal P A k l ⟨7, cr, ch, cv, ca, cb, cc⟩ h v] w fun r w' => r = .returned (.int .i64 (beginS P.s l ⟨7, cr, ch, cv, ca, cb, cc⟩ h v).1) ∧ Below w.heap.size w w' := by
  have HA := Lib.hid a.box
  have B : Below w.heap.size w (w.alloc (.cells #[.int .i64 P.s, .int .i64 P.t, .int .i64 P.i, .int .i64 P.h, .slice A l.length k, .int .u8 7, .int .u8 cr, .int .u8 ch, .int .u8 cv, .int .i64 ca, .int .i64 cb, .int .i64 cc, .int .u64 h, .int .u64 v] 71)) := by go_grown
  have HS := Lib.hid (fun W lo (b : Ask W w.heap.size P A k l ⟨7, cr, ch, cv, ca, cb, cc⟩ h v) => askScope_any w.heap.size P A k l ⟨7, cr, ch, cv, ca, cb, cc⟩ h v W lo b)
  have HRe := Lib.hid (fun W (b : Ask W w.heap.size P A k l ⟨7, cr, ch, cv, ca, cb, cc⟩ h v) => askReach_any w.heap.size P A k l ⟨7, cr, ch, cv, ca, cb, cc⟩ h v W b)
  have HD := Lib.hid (fun W (b : Ask W w.heap.size P A k l ⟨7, cr, ch, cv, ca, cb, cc⟩ h v) => askDeep_any w.heap.size P A k l ⟨7, cr, ch, cv, ca, cb, cc⟩ h v W b)
  have HCk := Lib.hid (fun W x x0 x1 (b : Ask W w.heap.size P A k l ⟨7, cr, ch, cv, ca, cb, cc⟩ h v) => askCheck_any w.heap.size P A k l ⟨7, cr, ch, cv, ca, cb, cc⟩ h v W x x0 x1 b)
  have h0 := a.h0
  have h1 := a.h1
  have v0 := a.v0
  have v1 := a.v1
  obtain ⟨⟨k0, k1, k2, k3, k4⟩, ⟨k5, k6, k7, k8, k9, k10, k11⟩, k12, k13⟩ := HA.out.cells
  have z0 := lt_of_heap HA.out.row
  clear a
  have HN := Lib.hid (show [cr].all rgOk = true by simpa using hn)
  clear hn
  obtain ⟨mb, Hmb⟩ : ∃ x : Bool, Hid (inB cc 0 7 = x) := ⟨_, Lib.hid rfl⟩
  obtain ⟨m, Hm⟩ : ∃ x : Int, Hid (mayE mb = x) := ⟨_, Lib.hid rfl⟩
  obtain ⟨we, Hwe⟩ : ∃ x : Int, Hid (wordsE ca cb = x) := ⟨_, Lib.hid rfl⟩
  go_enter Try.func26, Try.ntmps26
  go_wp2_with (first | (go_at_call 56; refine (wordsE_any _ _ _).mono ?_; rintro r w1 ⟨⟨n, rfl⟩, rfl⟩; rw [Hwe.out]) | (go_at_call 53; refine (named_any _ _ [cr] _ (by simp) (cells_lit [.int .u8 cr] (by simp))).mono ?_; rintro r w1 ⟨rfl, hb⟩; rw [HN.out]; have HA' := Lib.hid (Ask.below (show Ask _ w.heap.size P A k l ⟨7, cr, ch, cv, ca, cb, cc⟩ h _ by first | exact HA.out | exact HA.out.below (by go_grown)) hb); replace B := below_only (show Below w.heap.size w _ by first | exact B | go_grown) hb; clear HA hb k0 k1 k2 k3 k4 k5 k6 k7 k8 k9 k10 k11 k12 k13; obtain ⟨⟨k0, k1, k2, k3, k4⟩, ⟨k5, k6, k7, k8, k9, k10, k11⟩, k12, k13⟩ := HA'.out.cells; have HA := HA'; clear HA'; (try clear z0); have z0 := lt_of_heap HA.out.row) | (go_at_call 47; refine (within_any _ _ _ _).mono ?_; rintro r w1 ⟨rfl, rfl⟩; rw [Hmb.out]) | (go_at_call 51; refine (askMay_any _ _).mono ?_; rintro r w1 ⟨rfl, rfl⟩; rw [Hm.out]) | (go_at_call 54; refine (first_any _ _ [m, we] _ (by simp) (cells_lit [.int .i64 (m), .int .i64 (we)] (by simp))).mono ?_; rintro r w1 ⟨rfl, rfl⟩))
  go_ret
  exact ⟨by
    have hn : rgOk cr = true := by simpa using HN.out
    rw [← Hm.out, ← Hwe.out, ← Hmb.out]
    cases hc : inB cc 0 7 <;> cases ha : inB ca 0 6 <;> cases hb : inB cb 0 512 <;> simp [beginS, mayE, firstC, wordsE, wordsB, hn, hc, ha, hb], by first | exact B | go_grown⟩

set_option maxRecDepth 100000 in
set_option maxHeartbeats 1000000 in
theorem refuse7f (cr ch cv ca cb cc h v : Int) (w : World) (a : AskIn w P A k l ⟨7, cr, ch, cv, ca, cb, cc⟩ h v) (hn : rgOk cr = false) :
    Calls Try.prog 26 #[askVal P A k l ⟨7, cr, ch, cv, ca, cb, cc⟩ h v] w fun r w' => r = .returned (.int .i64 (beginS P.s l ⟨7, cr, ch, cv, ca, cb, cc⟩ h v).1) ∧ Below w.heap.size w w' := by
  have HA := Lib.hid a.box
  have B : Below w.heap.size w (w.alloc (.cells #[.int .i64 P.s, .int .i64 P.t, .int .i64 P.i, .int .i64 P.h, .slice A l.length k, .int .u8 7, .int .u8 cr, .int .u8 ch, .int .u8 cv, .int .i64 ca, .int .i64 cb, .int .i64 cc, .int .u64 h, .int .u64 v] 71)) := by go_grown
  have HS := Lib.hid (fun W lo (b : Ask W w.heap.size P A k l ⟨7, cr, ch, cv, ca, cb, cc⟩ h v) => askScope_any w.heap.size P A k l ⟨7, cr, ch, cv, ca, cb, cc⟩ h v W lo b)
  have HRe := Lib.hid (fun W (b : Ask W w.heap.size P A k l ⟨7, cr, ch, cv, ca, cb, cc⟩ h v) => askReach_any w.heap.size P A k l ⟨7, cr, ch, cv, ca, cb, cc⟩ h v W b)
  have HD := Lib.hid (fun W (b : Ask W w.heap.size P A k l ⟨7, cr, ch, cv, ca, cb, cc⟩ h v) => askDeep_any w.heap.size P A k l ⟨7, cr, ch, cv, ca, cb, cc⟩ h v W b)
  have HCk := Lib.hid (fun W x x0 x1 (b : Ask W w.heap.size P A k l ⟨7, cr, ch, cv, ca, cb, cc⟩ h v) => askCheck_any w.heap.size P A k l ⟨7, cr, ch, cv, ca, cb, cc⟩ h v W x x0 x1 b)
  have h0 := a.h0
  have h1 := a.h1
  have v0 := a.v0
  have v1 := a.v1
  obtain ⟨⟨k0, k1, k2, k3, k4⟩, ⟨k5, k6, k7, k8, k9, k10, k11⟩, k12, k13⟩ := HA.out.cells
  have z0 := lt_of_heap HA.out.row
  clear a
  have HN := Lib.hid (show [cr].all rgOk = false by simpa using hn)
  clear hn
  obtain ⟨m, Hm⟩ : ∃ x : Int, Hid (mayE false = x) := ⟨_, Lib.hid rfl⟩
  obtain ⟨we, Hwe⟩ : ∃ x : Int, Hid (wordsE ca cb = x) := ⟨_, Lib.hid rfl⟩
  go_enter Try.func26, Try.ntmps26
  go_wp2_with (first | (go_at_call 56; refine (wordsE_any _ _ _).mono ?_; rintro r w1 ⟨⟨n, rfl⟩, rfl⟩; rw [Hwe.out]) | (go_at_call 53; refine (named_any _ _ [cr] _ (by simp) (cells_lit [.int .u8 cr] (by simp))).mono ?_; rintro r w1 ⟨rfl, hb⟩; rw [HN.out]; have HA' := Lib.hid (Ask.below (show Ask _ w.heap.size P A k l ⟨7, cr, ch, cv, ca, cb, cc⟩ h _ by first | exact HA.out | exact HA.out.below (by go_grown)) hb); replace B := below_only (show Below w.heap.size w _ by first | exact B | go_grown) hb; clear HA hb k0 k1 k2 k3 k4 k5 k6 k7 k8 k9 k10 k11 k12 k13; obtain ⟨⟨k0, k1, k2, k3, k4⟩, ⟨k5, k6, k7, k8, k9, k10, k11⟩, k12, k13⟩ := HA'.out.cells; have HA := HA'; clear HA'; (try clear z0); have z0 := lt_of_heap HA.out.row) | (go_at_call 51; refine (askMay_any _ _).mono ?_; rintro r w1 ⟨rfl, rfl⟩; rw [Hm.out]) | (go_at_call 54; refine (first_any _ _ [m, we] _ (by simp) (cells_lit [.int .i64 (m), .int .i64 (we)] (by simp))).mono ?_; rintro r w1 ⟨rfl, rfl⟩))
  go_ret
  exact ⟨by
    have hn : rgOk cr = false := by simpa using HN.out
    rw [← Hm.out, ← Hwe.out]
    cases hc : inB cc 0 7 <;> cases ha : inB ca 0 6 <;> cases hb : inB cb 0 512 <;> simp [beginS, mayE, firstC, wordsE, wordsB, hn, hc, ha, hb], by first | exact B | go_grown⟩

set_option maxRecDepth 100000 in
set_option maxHeartbeats 1000000 in
theorem refuse8 (cr ch cv ca cb cc h v : Int) (w : World) (a : AskIn w P A k l ⟨8, cr, ch, cv, ca, cb, cc⟩ h v) :
    Calls Try.prog 26 #[askVal P A k l ⟨8, cr, ch, cv, ca, cb, cc⟩ h v] w fun r w' => r = .returned (.int .i64 (beginS P.s l ⟨8, cr, ch, cv, ca, cb, cc⟩ h v).1) ∧ Below w.heap.size w w' := by
  have HA := Lib.hid a.box
  have B : Below w.heap.size w (w.alloc (.cells #[.int .i64 P.s, .int .i64 P.t, .int .i64 P.i, .int .i64 P.h, .slice A l.length k, .int .u8 8, .int .u8 cr, .int .u8 ch, .int .u8 cv, .int .i64 ca, .int .i64 cb, .int .i64 cc, .int .u64 h, .int .u64 v] 71)) := by go_grown
  have HS := Lib.hid (fun W lo (b : Ask W w.heap.size P A k l ⟨8, cr, ch, cv, ca, cb, cc⟩ h v) => askScope_any w.heap.size P A k l ⟨8, cr, ch, cv, ca, cb, cc⟩ h v W lo b)
  have HRe := Lib.hid (fun W (b : Ask W w.heap.size P A k l ⟨8, cr, ch, cv, ca, cb, cc⟩ h v) => askReach_any w.heap.size P A k l ⟨8, cr, ch, cv, ca, cb, cc⟩ h v W b)
  have HD := Lib.hid (fun W (b : Ask W w.heap.size P A k l ⟨8, cr, ch, cv, ca, cb, cc⟩ h v) => askDeep_any w.heap.size P A k l ⟨8, cr, ch, cv, ca, cb, cc⟩ h v W b)
  have HCk := Lib.hid (fun W x x0 x1 (b : Ask W w.heap.size P A k l ⟨8, cr, ch, cv, ca, cb, cc⟩ h v) => askCheck_any w.heap.size P A k l ⟨8, cr, ch, cv, ca, cb, cc⟩ h v W x x0 x1 b)
  have h0 := a.h0
  have h1 := a.h1
  have v0 := a.v0
  have v1 := a.v1
  obtain ⟨⟨k0, k1, k2, k3, k4⟩, ⟨k5, k6, k7, k8, k9, k10, k11⟩, k12, k13⟩ := HA.out.cells
  have z0 := lt_of_heap HA.out.row
  clear a
  obtain ⟨nb, Hnb⟩ : ∃ x : Bool, Hid ([cr, ch].all rgOk = x) := ⟨_, Lib.hid rfl⟩
  obtain ⟨m, Hm⟩ : ∃ x : Int, Hid (mayE nb = x) := ⟨_, Lib.hid rfl⟩
  obtain ⟨ck, Hck⟩ : ∃ x : Int, Hid ((checkR P.s l h).2 = x) := ⟨_, Lib.hid rfl⟩
  go_enter Try.func26, Try.ntmps26
  go_wp2_with fail
  go_region_held3 (Old (w.alloc (.cells #[.int .i64 P.s, .int .i64 P.t, .int .i64 P.i, .int .i64 P.h, .slice A l.length k, .int .u8 8, .int .u8 cr, .int .u8 ch, .int .u8 cv, .int .i64 ca, .int .i64 cb, .int .i64 cc, .int .u64 h, .int .u64 v] 71))) ((go_split_ands; refine old_of ?_; first | (go_grown; done) | assumption | exact below_alloc (by assumption) _ | (refine below_only ?_ (by assumption); go_grown; done))) (first | (go_at_call 53; refine (named_any _ _ [cr, ch] _ (by simp) ?_).mono ?_; exact cells_lit [.int .u8 cr, .int .u8 ch] (by simp); rintro r w1 ⟨rfl, hb1⟩; rw [Hnb.out]; have o1 := below_only (show Below (w.alloc (.cells #[.int .i64 P.s, .int .i64 P.t, .int .i64 P.i, .int .i64 P.h, .slice A l.length k, .int .u8 8, .int .u8 cr, .int .u8 ch, .int .u8 cv, .int .i64 ca, .int .i64 cb, .int .i64 cc, .int .u64 h, .int .u64 v] 71)).heap.size (w.alloc (.cells #[.int .i64 P.s, .int .i64 P.t, .int .i64 P.i, .int .i64 P.h, .slice A l.length k, .int .u8 8, .int .u8 cr, .int .u8 ch, .int .u8 cv, .int .i64 ca, .int .i64 cb, .int .i64 cc, .int .u64 h, .int .u64 v] 71)) _ by go_grown) hb1; clear hb1) | (go_at_call 51; refine (askMay_any _ _).mono ?_; rintro r w2 ⟨rfl, rfl⟩; rw [Hm.out]) | (go_at_call 52; refine (HCk.out _ h h0 h1 (HA.out.below (by first | exact o1 | go_grown))).mono ?_; rintro r w3 ⟨rfl, hb3⟩; rw [Hck.out]; have o3 := below_only o1 hb3; clear hb3) | (go_at_call 54; refine (first_any _ _ [m, ck] _ (by simp) ?_).mono ?_; exact cells_lit [.int .i64 m, .int .i64 ck] (by simp); rintro r w4 ⟨rfl, rfl⟩))
  go_wp2_with fail
  go_ret
  refine ⟨ret_int (a := firstC [m, ck]) ?_, below_only B (below_alloc o3 _)⟩
  rw [← Hm.out, ← Hck.out, ← Hnb.out]
  cases hn : rgOk cr <;> cases hh : rgOk ch <;> by_cases hc : (checkR P.s l h).2 = 0 <;> simp [beginS, mayE, firstC, hn, hh, hc]

set_option maxRecDepth 100000 in
set_option maxHeartbeats 1000000 in
theorem refuse9 (cr ch cv ca cb cc h v : Int) (w : World) (a : AskIn w P A k l ⟨9, cr, ch, cv, ca, cb, cc⟩ h v) :
    Calls Try.prog 26 #[askVal P A k l ⟨9, cr, ch, cv, ca, cb, cc⟩ h v] w fun r w' => r = .returned (.int .i64 (beginS P.s l ⟨9, cr, ch, cv, ca, cb, cc⟩ h v).1) ∧ Below w.heap.size w w' := by
  have HA := Lib.hid a.box
  have B : Below w.heap.size w (w.alloc (.cells #[.int .i64 P.s, .int .i64 P.t, .int .i64 P.i, .int .i64 P.h, .slice A l.length k, .int .u8 9, .int .u8 cr, .int .u8 ch, .int .u8 cv, .int .i64 ca, .int .i64 cb, .int .i64 cc, .int .u64 h, .int .u64 v] 71)) := by go_grown
  have HS := Lib.hid (fun W lo (b : Ask W w.heap.size P A k l ⟨9, cr, ch, cv, ca, cb, cc⟩ h v) => askScope_any w.heap.size P A k l ⟨9, cr, ch, cv, ca, cb, cc⟩ h v W lo b)
  have HRe := Lib.hid (fun W (b : Ask W w.heap.size P A k l ⟨9, cr, ch, cv, ca, cb, cc⟩ h v) => askReach_any w.heap.size P A k l ⟨9, cr, ch, cv, ca, cb, cc⟩ h v W b)
  have HD := Lib.hid (fun W (b : Ask W w.heap.size P A k l ⟨9, cr, ch, cv, ca, cb, cc⟩ h v) => askDeep_any w.heap.size P A k l ⟨9, cr, ch, cv, ca, cb, cc⟩ h v W b)
  have HCk := Lib.hid (fun W x x0 x1 (b : Ask W w.heap.size P A k l ⟨9, cr, ch, cv, ca, cb, cc⟩ h v) => askCheck_any w.heap.size P A k l ⟨9, cr, ch, cv, ca, cb, cc⟩ h v W x x0 x1 b)
  have h0 := a.h0
  have h1 := a.h1
  have v0 := a.v0
  have v1 := a.v1
  obtain ⟨⟨k0, k1, k2, k3, k4⟩, ⟨k5, k6, k7, k8, k9, k10, k11⟩, k12, k13⟩ := HA.out.cells
  have z0 := lt_of_heap HA.out.row
  clear a
  obtain ⟨nb, Hnb⟩ : ∃ x : Bool, Hid ([ch, cv].all rgOk = x) := ⟨_, Lib.hid rfl⟩
  obtain ⟨m, Hm⟩ : ∃ x : Int, Hid (mayE nb = x) := ⟨_, Lib.hid rfl⟩
  obtain ⟨ck, Hck⟩ : ∃ x : Int, Hid ((checkR P.s l h).2 = x) := ⟨_, Lib.hid rfl⟩
  go_enter Try.func26, Try.ntmps26
  go_wp2_with fail
  go_region_held3 (Old (w.alloc (.cells #[.int .i64 P.s, .int .i64 P.t, .int .i64 P.i, .int .i64 P.h, .slice A l.length k, .int .u8 9, .int .u8 cr, .int .u8 ch, .int .u8 cv, .int .i64 ca, .int .i64 cb, .int .i64 cc, .int .u64 h, .int .u64 v] 71))) ((go_split_ands; refine old_of ?_; first | (go_grown; done) | assumption | exact below_alloc (by assumption) _ | (refine below_only ?_ (by assumption); go_grown; done))) (first | (go_at_call 53; refine (named_any _ _ [ch, cv] _ (by simp) ?_).mono ?_; exact cells_lit [.int .u8 ch, .int .u8 cv] (by simp); rintro r w1 ⟨rfl, hb1⟩; rw [Hnb.out]; have o1 := below_only (show Below (w.alloc (.cells #[.int .i64 P.s, .int .i64 P.t, .int .i64 P.i, .int .i64 P.h, .slice A l.length k, .int .u8 9, .int .u8 cr, .int .u8 ch, .int .u8 cv, .int .i64 ca, .int .i64 cb, .int .i64 cc, .int .u64 h, .int .u64 v] 71)).heap.size (w.alloc (.cells #[.int .i64 P.s, .int .i64 P.t, .int .i64 P.i, .int .i64 P.h, .slice A l.length k, .int .u8 9, .int .u8 cr, .int .u8 ch, .int .u8 cv, .int .i64 ca, .int .i64 cb, .int .i64 cc, .int .u64 h, .int .u64 v] 71)) _ by go_grown) hb1; clear hb1) | (go_at_call 51; refine (askMay_any _ _).mono ?_; rintro r w2 ⟨rfl, rfl⟩; rw [Hm.out]) | (go_at_call 52; refine (HCk.out _ h h0 h1 (HA.out.below (by first | exact o1 | go_grown))).mono ?_; rintro r w3 ⟨rfl, hb3⟩; rw [Hck.out]; have o3 := below_only o1 hb3; clear hb3) | (go_at_call 54; refine (first_any _ _ [m, ck] _ (by simp) ?_).mono ?_; exact cells_lit [.int .i64 m, .int .i64 ck] (by simp); rintro r w4 ⟨rfl, rfl⟩))
  go_wp2_with fail
  go_ret
  refine ⟨ret_int (a := firstC [m, ck]) ?_, below_only B (below_alloc o3 _)⟩
  rw [← Hm.out, ← Hck.out, ← Hnb.out]
  cases hn : rgOk ch <;> cases hh : rgOk cv <;> by_cases hc : (checkR P.s l h).2 = 0 <;> simp [beginS, mayE, firstC, hn, hh, hc]

set_option maxRecDepth 100000 in
set_option maxHeartbeats 1000000 in
theorem refuse11 (cr ch cv ca cb cc h v : Int) (w : World) (a : AskIn w P A k l ⟨11, cr, ch, cv, ca, cb, cc⟩ h v) :
    Calls Try.prog 26 #[askVal P A k l ⟨11, cr, ch, cv, ca, cb, cc⟩ h v] w fun r w' => r = .returned (.int .i64 (beginS P.s l ⟨11, cr, ch, cv, ca, cb, cc⟩ h v).1) ∧ Below w.heap.size w w' := by
  have HA := Lib.hid a.box
  have B : Below w.heap.size w (w.alloc (.cells #[.int .i64 P.s, .int .i64 P.t, .int .i64 P.i, .int .i64 P.h, .slice A l.length k, .int .u8 11, .int .u8 cr, .int .u8 ch, .int .u8 cv, .int .i64 ca, .int .i64 cb, .int .i64 cc, .int .u64 h, .int .u64 v] 71)) := by go_grown
  have HS := Lib.hid (fun W lo (b : Ask W w.heap.size P A k l ⟨11, cr, ch, cv, ca, cb, cc⟩ h v) => askScope_any w.heap.size P A k l ⟨11, cr, ch, cv, ca, cb, cc⟩ h v W lo b)
  have HRe := Lib.hid (fun W (b : Ask W w.heap.size P A k l ⟨11, cr, ch, cv, ca, cb, cc⟩ h v) => askReach_any w.heap.size P A k l ⟨11, cr, ch, cv, ca, cb, cc⟩ h v W b)
  have HD := Lib.hid (fun W (b : Ask W w.heap.size P A k l ⟨11, cr, ch, cv, ca, cb, cc⟩ h v) => askDeep_any w.heap.size P A k l ⟨11, cr, ch, cv, ca, cb, cc⟩ h v W b)
  have HCk := Lib.hid (fun W x x0 x1 (b : Ask W w.heap.size P A k l ⟨11, cr, ch, cv, ca, cb, cc⟩ h v) => askCheck_any w.heap.size P A k l ⟨11, cr, ch, cv, ca, cb, cc⟩ h v W x x0 x1 b)
  have h0 := a.h0
  have h1 := a.h1
  have v0 := a.v0
  have v1 := a.v1
  obtain ⟨⟨k0, k1, k2, k3, k4⟩, ⟨k5, k6, k7, k8, k9, k10, k11⟩, k12, k13⟩ := HA.out.cells
  have z0 := lt_of_heap HA.out.row
  clear a
  obtain ⟨nb, Hnb⟩ : ∃ x : Bool, Hid ([cv].all rgOk = x) := ⟨_, Lib.hid rfl⟩
  obtain ⟨m, Hm⟩ : ∃ x : Int, Hid (mayE nb = x) := ⟨_, Lib.hid rfl⟩
  obtain ⟨sc, Hsc⟩ : ∃ x : Int, Hid (scopeE P.s ca 1 = x) := ⟨_, Lib.hid rfl⟩
  obtain ⟨re, Hre⟩ : ∃ x : Int, Hid (reachE l ca = x) := ⟨_, Lib.hid rfl⟩
  obtain ⟨fi, Hfi⟩ : ∃ x : Int, Hid (firstC [m, sc, re] = x) := ⟨_, Lib.hid rfl⟩
  obtain ⟨ck, Hck⟩ : ∃ x : Int, Hid ((checkR P.s l v).2 = x) := ⟨_, Lib.hid rfl⟩
  by_cases hfi : fi = 0
  · subst hfi
    by_cases hv : v = 0
    · subst hv
      have hv' : ((0 : Int) != 0) = false := rfl
      go_enter Try.func26, Try.ntmps26
      go_wp2_with (first | (go_at_call 53; refine (named_any _ _ [cv] _ (by simp) (cells_lit [.int .u8 cv] (by simp))).mono ?_; rintro r w1 ⟨rfl, hb⟩; rw [Hnb.out]; have HA' := Lib.hid (Ask.below (show Ask _ w.heap.size P A k l ⟨11, cr, ch, cv, ca, cb, cc⟩ h _ by first | exact HA.out | exact HA.out.below (by go_grown)) hb); replace B := below_only (show Below w.heap.size w _ by first | exact B | go_grown) hb; clear HA hb k0 k1 k2 k3 k4 k5 k6 k7 k8 k9 k10 k11 k12 k13; obtain ⟨⟨k0, k1, k2, k3, k4⟩, ⟨k5, k6, k7, k8, k9, k10, k11⟩, k12, k13⟩ := HA'.out.cells; have HA := HA'; clear HA'; (try clear z0); have z0 := lt_of_heap HA.out.row) | (go_at_call 51; refine (askMay_any _ _).mono ?_; rintro r w1 ⟨rfl, rfl⟩; rw [Hm.out]) | (go_at_call 46; refine (HS.out _ _ (by first | exact HA.out | exact HA.out.below (by go_grown))).mono ?_; rintro r w1 ⟨rfl, rfl⟩; rw [Hsc.out]) | (go_at_call 48; refine (HRe.out _ (by first | exact HA.out | exact HA.out.below (by go_grown))).mono ?_; rintro r w1 ⟨rfl, hb⟩; rw [Hre.out]; have HA' := Lib.hid (Ask.below (show Ask _ w.heap.size P A k l ⟨11, cr, ch, cv, ca, cb, cc⟩ h _ by first | exact HA.out | exact HA.out.below (by go_grown)) hb); replace B := below_only (show Below w.heap.size w _ by first | exact B | go_grown) hb; clear HA hb k0 k1 k2 k3 k4 k5 k6 k7 k8 k9 k10 k11 k12 k13; obtain ⟨⟨k0, k1, k2, k3, k4⟩, ⟨k5, k6, k7, k8, k9, k10, k11⟩, k12, k13⟩ := HA'.out.cells; have HA := HA'; clear HA'; (try clear z0); have z0 := lt_of_heap HA.out.row) | (go_at_call 54; refine (first_any _ _ [m, sc, re] _ (by simp) (cells_lit [.int .i64 (m), .int .i64 (sc), .int .i64 (re)] (by simp))).mono ?_; rintro r w1 ⟨rfl, rfl⟩; rw [Hfi.out]) | (go_at_call 52; refine (HCk.out _ v v0 v1 (by first | exact HA.out | exact HA.out.below (by go_grown))).mono ?_; rintro r w1 ⟨rfl, hb⟩; rw [Hck.out]; have HA' := Lib.hid (Ask.below (show Ask _ w.heap.size P A k l ⟨11, cr, ch, cv, ca, cb, cc⟩ h _ by first | exact HA.out | exact HA.out.below (by go_grown)) hb); replace B := below_only (show Below w.heap.size w _ by first | exact B | go_grown) hb; clear HA hb k0 k1 k2 k3 k4 k5 k6 k7 k8 k9 k10 k11 k12 k13; obtain ⟨⟨k0, k1, k2, k3, k4⟩, ⟨k5, k6, k7, k8, k9, k10, k11⟩, k12, k13⟩ := HA'.out.cells; have HA := HA'; clear HA'; (try clear z0); have z0 := lt_of_heap HA.out.row))
      go_ret
      refine ⟨ret_int (a := 0) ?_, by first | exact B | go_grown⟩
      have hf := Hfi.out
      rw [← Hm.out, ← Hsc.out, ← Hre.out, ← Hnb.out] at hf
      cases hn : rgOk cv <;> cases hi : inB ca 1 (P.s - 1) <;> cases hr : reach l ca <;> simp [mayE, scopeE, reachE, firstC, hn, hi, hr] at hf ⊢ <;> simp [beginS, hn, hi, hr]

    · have hv' : (v != 0) = true := by simpa using hv
      have Hv := Lib.hid hv
      clear hv
      go_enter Try.func26, Try.ntmps26
      go_wp2_with (first | (go_at_call 53; refine (named_any _ _ [cv] _ (by simp) (cells_lit [.int .u8 cv] (by simp))).mono ?_; rintro r w1 ⟨rfl, hb⟩; rw [Hnb.out]; have HA' := Lib.hid (Ask.below (show Ask _ w.heap.size P A k l ⟨11, cr, ch, cv, ca, cb, cc⟩ h _ by first | exact HA.out | exact HA.out.below (by go_grown)) hb); replace B := below_only (show Below w.heap.size w _ by first | exact B | go_grown) hb; clear HA hb k0 k1 k2 k3 k4 k5 k6 k7 k8 k9 k10 k11 k12 k13; obtain ⟨⟨k0, k1, k2, k3, k4⟩, ⟨k5, k6, k7, k8, k9, k10, k11⟩, k12, k13⟩ := HA'.out.cells; have HA := HA'; clear HA'; (try clear z0); have z0 := lt_of_heap HA.out.row) | (go_at_call 51; refine (askMay_any _ _).mono ?_; rintro r w1 ⟨rfl, rfl⟩; rw [Hm.out]) | (go_at_call 46; refine (HS.out _ _ (by first | exact HA.out | exact HA.out.below (by go_grown))).mono ?_; rintro r w1 ⟨rfl, rfl⟩; rw [Hsc.out]) | (go_at_call 48; refine (HRe.out _ (by first | exact HA.out | exact HA.out.below (by go_grown))).mono ?_; rintro r w1 ⟨rfl, hb⟩; rw [Hre.out]; have HA' := Lib.hid (Ask.below (show Ask _ w.heap.size P A k l ⟨11, cr, ch, cv, ca, cb, cc⟩ h _ by first | exact HA.out | exact HA.out.below (by go_grown)) hb); replace B := below_only (show Below w.heap.size w _ by first | exact B | go_grown) hb; clear HA hb k0 k1 k2 k3 k4 k5 k6 k7 k8 k9 k10 k11 k12 k13; obtain ⟨⟨k0, k1, k2, k3, k4⟩, ⟨k5, k6, k7, k8, k9, k10, k11⟩, k12, k13⟩ := HA'.out.cells; have HA := HA'; clear HA'; (try clear z0); have z0 := lt_of_heap HA.out.row) | (go_at_call 54; refine (first_any _ _ [m, sc, re] _ (by simp) (cells_lit [.int .i64 (m), .int .i64 (sc), .int .i64 (re)] (by simp))).mono ?_; rintro r w1 ⟨rfl, rfl⟩; rw [Hfi.out]) | (go_at_call 52; refine (HCk.out _ v v0 v1 (by first | exact HA.out | exact HA.out.below (by go_grown))).mono ?_; rintro r w1 ⟨rfl, hb⟩; rw [Hck.out]; have HA' := Lib.hid (Ask.below (show Ask _ w.heap.size P A k l ⟨11, cr, ch, cv, ca, cb, cc⟩ h _ by first | exact HA.out | exact HA.out.below (by go_grown)) hb); replace B := below_only (show Below w.heap.size w _ by first | exact B | go_grown) hb; clear HA hb k0 k1 k2 k3 k4 k5 k6 k7 k8 k9 k10 k11 k12 k13; obtain ⟨⟨k0, k1, k2, k3, k4⟩, ⟨k5, k6, k7, k8, k9, k10, k11⟩, k12, k13⟩ := HA'.out.cells; have HA := HA'; clear HA'; (try clear z0); have z0 := lt_of_heap HA.out.row))
      go_ret
      refine ⟨ret_int (a := ck) ?_, by first | exact B | go_grown⟩
      have hf := Hfi.out
      have hv := Hv.out
      rw [← Hm.out, ← Hsc.out, ← Hre.out, ← Hnb.out] at hf
      rw [← Hck.out]
      cases hn : rgOk cv <;> cases hi : inB ca 1 (P.s - 1) <;> cases hr : reach l ca <;> by_cases hc : (checkR P.s l v).2 = 0 <;> simp [mayE, scopeE, reachE, firstC, hn, hi, hr] at hf ⊢ <;> simp [beginS, hn, hi, hr, hv, hc]

  · have hfi' : (fi == 0) = false := by simpa using hfi
    have Hfn := Lib.hid hfi
    clear hfi
    go_enter Try.func26, Try.ntmps26
    go_wp2_with (first | (go_at_call 53; refine (named_any _ _ [cv] _ (by simp) (cells_lit [.int .u8 cv] (by simp))).mono ?_; rintro r w1 ⟨rfl, hb⟩; rw [Hnb.out]; have HA' := Lib.hid (Ask.below (show Ask _ w.heap.size P A k l ⟨11, cr, ch, cv, ca, cb, cc⟩ h _ by first | exact HA.out | exact HA.out.below (by go_grown)) hb); replace B := below_only (show Below w.heap.size w _ by first | exact B | go_grown) hb; clear HA hb k0 k1 k2 k3 k4 k5 k6 k7 k8 k9 k10 k11 k12 k13; obtain ⟨⟨k0, k1, k2, k3, k4⟩, ⟨k5, k6, k7, k8, k9, k10, k11⟩, k12, k13⟩ := HA'.out.cells; have HA := HA'; clear HA'; (try clear z0); have z0 := lt_of_heap HA.out.row) | (go_at_call 51; refine (askMay_any _ _).mono ?_; rintro r w1 ⟨rfl, rfl⟩; rw [Hm.out]) | (go_at_call 46; refine (HS.out _ _ (by first | exact HA.out | exact HA.out.below (by go_grown))).mono ?_; rintro r w1 ⟨rfl, rfl⟩; rw [Hsc.out]) | (go_at_call 48; refine (HRe.out _ (by first | exact HA.out | exact HA.out.below (by go_grown))).mono ?_; rintro r w1 ⟨rfl, hb⟩; rw [Hre.out]; have HA' := Lib.hid (Ask.below (show Ask _ w.heap.size P A k l ⟨11, cr, ch, cv, ca, cb, cc⟩ h _ by first | exact HA.out | exact HA.out.below (by go_grown)) hb); replace B := below_only (show Below w.heap.size w _ by first | exact B | go_grown) hb; clear HA hb k0 k1 k2 k3 k4 k5 k6 k7 k8 k9 k10 k11 k12 k13; obtain ⟨⟨k0, k1, k2, k3, k4⟩, ⟨k5, k6, k7, k8, k9, k10, k11⟩, k12, k13⟩ := HA'.out.cells; have HA := HA'; clear HA'; (try clear z0); have z0 := lt_of_heap HA.out.row) | (go_at_call 54; refine (first_any _ _ [m, sc, re] _ (by simp) (cells_lit [.int .i64 (m), .int .i64 (sc), .int .i64 (re)] (by simp))).mono ?_; rintro r w1 ⟨rfl, rfl⟩; rw [Hfi.out]) | (go_at_call 52; refine (HCk.out _ v v0 v1 (by first | exact HA.out | exact HA.out.below (by go_grown))).mono ?_; rintro r w1 ⟨rfl, hb⟩; rw [Hck.out]; have HA' := Lib.hid (Ask.below (show Ask _ w.heap.size P A k l ⟨11, cr, ch, cv, ca, cb, cc⟩ h _ by first | exact HA.out | exact HA.out.below (by go_grown)) hb); replace B := below_only (show Below w.heap.size w _ by first | exact B | go_grown) hb; clear HA hb k0 k1 k2 k3 k4 k5 k6 k7 k8 k9 k10 k11 k12 k13; obtain ⟨⟨k0, k1, k2, k3, k4⟩, ⟨k5, k6, k7, k8, k9, k10, k11⟩, k12, k13⟩ := HA'.out.cells; have HA := HA'; clear HA'; (try clear z0); have z0 := lt_of_heap HA.out.row))
    go_ret
    refine ⟨ret_int (a := fi) ?_, by first | exact B | go_grown⟩
    have hf := Hfn.out
    rw [← Hfi.out, ← Hm.out, ← Hsc.out, ← Hre.out, ← Hnb.out] at hf ⊢
    cases hn : rgOk cv <;> cases hi : inB ca 1 (P.s - 1) <;> cases hr : reach l ca <;> simp [mayE, scopeE, reachE, firstC, hn, hi, hr] at hf ⊢ <;> simp [beginS, hn, hi, hr]

set_option maxRecDepth 100000 in
set_option maxHeartbeats 1000000 in
theorem refuseX (co cr ch cv ca cb cc h v : Int) (w : World) (a : AskIn w P A k l ⟨co, cr, ch, cv, ca, cb, cc⟩ h v) (hc : 12 ≤ co) :
    Calls Try.prog 26 #[askVal P A k l ⟨co, cr, ch, cv, ca, cb, cc⟩ h v] w fun r w' => r = .returned (.int .i64 (beginS P.s l ⟨co, cr, ch, cv, ca, cb, cc⟩ h v).1) ∧ Below w.heap.size w w' := by
  have HA := Lib.hid a.box
  have B : Below w.heap.size w (w.alloc (.cells #[.int .i64 P.s, .int .i64 P.t, .int .i64 P.i, .int .i64 P.h, .slice A l.length k, .int .u8 co, .int .u8 cr, .int .u8 ch, .int .u8 cv, .int .i64 ca, .int .i64 cb, .int .i64 cc, .int .u64 h, .int .u64 v] 71)) := by go_grown
  have HS := Lib.hid (fun W lo (b : Ask W w.heap.size P A k l ⟨co, cr, ch, cv, ca, cb, cc⟩ h v) => askScope_any w.heap.size P A k l ⟨co, cr, ch, cv, ca, cb, cc⟩ h v W lo b)
  have HRe := Lib.hid (fun W (b : Ask W w.heap.size P A k l ⟨co, cr, ch, cv, ca, cb, cc⟩ h v) => askReach_any w.heap.size P A k l ⟨co, cr, ch, cv, ca, cb, cc⟩ h v W b)
  have HD := Lib.hid (fun W (b : Ask W w.heap.size P A k l ⟨co, cr, ch, cv, ca, cb, cc⟩ h v) => askDeep_any w.heap.size P A k l ⟨co, cr, ch, cv, ca, cb, cc⟩ h v W b)
  have HCk := Lib.hid (fun W x x0 x1 (b : Ask W w.heap.size P A k l ⟨co, cr, ch, cv, ca, cb, cc⟩ h v) => askCheck_any w.heap.size P A k l ⟨co, cr, ch, cv, ca, cb, cc⟩ h v W x x0 x1 b)
  have h0 := a.h0
  have h1 := a.h1
  have v0 := a.v0
  have v1 := a.v1
  obtain ⟨⟨k0, k1, k2, k3, k4⟩, ⟨k5, k6, k7, k8, k9, k10, k11⟩, k12, k13⟩ := HA.out.cells
  have z0 := lt_of_heap HA.out.row
  clear a
  have d0 : (co == 0) = false := beq_false_of_ne (by omega)
  have d1 : (co == 1) = false := beq_false_of_ne (by omega)
  have d2 : (co == 2) = false := beq_false_of_ne (by omega)
  have d3 : (co == 3) = false := beq_false_of_ne (by omega)
  have d4 : (co == 4) = false := beq_false_of_ne (by omega)
  have d5 : (co == 5) = false := beq_false_of_ne (by omega)
  have d6 : (co == 6) = false := beq_false_of_ne (by omega)
  have d7 : (co == 7) = false := beq_false_of_ne (by omega)
  have d8 : (co == 8) = false := beq_false_of_ne (by omega)
  have d9 : (co == 9) = false := beq_false_of_ne (by omega)
  have d10 : (co == 10) = false := beq_false_of_ne (by omega)
  have d11 : (co == 11) = false := beq_false_of_ne (by omega)
  have Hc := Lib.hid hc
  clear hc
  go_enter Try.func26, Try.ntmps26
  go_wp2_with fail
  go_ret
  refine ⟨ret_int (a := 1) ?_, by first | exact B | go_grown⟩
  have hc := Hc.out
  have n0 : co ≠ 0 := by omega
  have n1 : co ≠ 1 := by omega
  have n2 : co ≠ 2 := by omega
  have n3 : co ≠ 3 := by omega
  have n4 : co ≠ 4 := by omega
  have n5 : co ≠ 5 := by omega
  have n6 : co ≠ 6 := by omega
  have n7 : co ≠ 7 := by omega
  have n8 : co ≠ 8 := by omega
  have n9 : co ≠ 9 := by omega
  have n10 : co ≠ 10 := by omega
  have n11 : co ≠ 11 := by omega
  simp [beginS, n0, n1, n2, n3, n4, n5, n6, n7, n8, n9, n10, n11]

end

end Go.Proofs.Ytaneokplagdcfaa
