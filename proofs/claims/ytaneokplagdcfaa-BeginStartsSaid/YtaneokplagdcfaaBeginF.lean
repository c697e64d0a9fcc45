/- The walks of begin's refuse as a whole, and of its pc. -/
import Derived.Test.YtaneokplagdcfaaBeginE
import Derived.Test.YtaneokplagdcfaaRun
namespace Go.Proofs.Ytaneokplagdcfaa
open Go.RowKit
set_option linter.unusedVariables false
section
variable (P : Pln) (A : Option Addr) (k : Nat) (l : List Ent)
theorem refuse_any (c : Cal) (h v : Int) (w : World) (a : AskIn w P A k l c h v) :
    Calls Try.prog 26 #[askVal P A k l c h v] w fun r w' => r = .returned (.int .i64 (beginS P.s l c h v).1) ∧ Below w.heap.size w w' := by
  have hop := a.cal.op
  obtain ⟨co, cr, ch, cv, ca, cb, cc⟩ := c
  dsimp only at hop
  by_cases hX : 12 ≤ co
  · exact refuseX P A k l co cr ch cv ca cb cc h v w a hX
  have : co = 0 ∨ co = 1 ∨ co = 2 ∨ co = 3 ∨ co = 4 ∨ co = 5 ∨ co = 6 ∨ co = 7 ∨ co = 8 ∨ co = 9 ∨ co = 10 ∨ co = 11 := by omega
  rcases this with rfl | rfl | rfl | rfl | rfl | rfl | rfl | rfl | rfl | rfl | rfl | rfl
  · exact refuse0 P A k l cr ch cv ca cb cc h v w a
  · exact refuse1 P A k l cr ch cv ca cb cc h v w a
  · exact refuse2 P A k l cr ch cv ca cb cc h v w a
  · exact refuse3 P A k l cr ch cv ca cb cc h v w a
  · exact refuse4 P A k l cr ch cv ca cb cc h v w a
  · exact refuse5 P A k l cr ch cv ca cb cc h v w a
  · exact refuse6 P A k l cr ch cv ca cb cc h v w a
  · cases hn : rgOk cr with
    | true => exact refuse7t P A k l cr ch cv ca cb cc h v w a hn
    | false => exact refuse7f P A k l cr ch cv ca cb cc h v w a hn
  · exact refuse8 P A k l cr ch cv ca cb cc h v w a
  · exact refuse9 P A k l cr ch cv ca cb cc h v w a
  · exact refuse10 P A k l cr ch cv ca cb cc h v w a
  · exact refuse11 P A k l cr ch cv ca cb cc h v w a

set_option maxRecDepth 100000 in
set_option maxHeartbeats 1000000 in
theorem pc0 (cr ch cv ca cb cc h v : Int) (w : World) (a : AskIn w P A k l ⟨0, cr, ch, cv, ca, cb, cc⟩ h v) (hz : (beginS P.s l ⟨0, cr, ch, cv, ca, cb, cc⟩ h v).1 = 0) :
    Calls Try.prog 27 #[askVal P A k l ⟨0, cr, ch, cv, ca, cb, cc⟩ h v] w fun r w' => r = .returned (.int .i64 (beginS P.s l ⟨0, cr, ch, cv, ca, cb, cc⟩ h v).2) ∧ Below w.heap.size w w' := by
  have HZ := Lib.hid hz
  clear hz a
  go_enter Try.func27, Try.ntmps27
  go_wp2
  go_ret
  refine ⟨ret_int (a := 0) ?_, by go_grown⟩
  have hz := HZ.out
  simp [beginS] at hz ⊢
  all_goals (repeat' split at hz) <;> simp_all

set_option maxRecDepth 100000 in
set_option maxHeartbeats 1000000 in
theorem pc1 (cr ch cv ca cb cc h v : Int) (w : World) (a : AskIn w P A k l ⟨1, cr, ch, cv, ca, cb, cc⟩ h v) (hz : (beginS P.s l ⟨1, cr, ch, cv, ca, cb, cc⟩ h v).1 = 0) :
    Calls Try.prog 27 #[askVal P A k l ⟨1, cr, ch, cv, ca, cb, cc⟩ h v] w fun r w' => r = .returned (.int .i64 (beginS P.s l ⟨1, cr, ch, cv, ca, cb, cc⟩ h v).2) ∧ Below w.heap.size w w' := by
  have HZ := Lib.hid hz
  clear hz a
  go_enter Try.func27, Try.ntmps27
  go_wp2
  go_ret
  refine ⟨ret_int (a := 0) ?_, by go_grown⟩
  have hz := HZ.out
  simp [beginS] at hz ⊢
  all_goals (repeat' split at hz) <;> simp_all

set_option maxRecDepth 100000 in
set_option maxHeartbeats 1000000 in
theorem pc2 (cr ch cv ca cb cc h v : Int) (w : World) (a : AskIn w P A k l ⟨2, cr, ch, cv, ca, cb, cc⟩ h v) (hz : (beginS P.s l ⟨2, cr, ch, cv, ca, cb, cc⟩ h v).1 = 0) :
    Calls Try.prog 27 #[askVal P A k l ⟨2, cr, ch, cv, ca, cb, cc⟩ h v] w fun r w' => r = .returned (.int .i64 (beginS P.s l ⟨2, cr, ch, cv, ca, cb, cc⟩ h v).2) ∧ Below w.heap.size w w' := by
  have HZ := Lib.hid hz
  clear hz a
  go_enter Try.func27, Try.ntmps27
  go_wp2
  go_ret
  refine ⟨ret_int (a := 1) ?_, by go_grown⟩
  have hz := HZ.out
  simp [beginS] at hz ⊢
  all_goals (repeat' split at hz) <;> simp_all

set_option maxRecDepth 100000 in
set_option maxHeartbeats 1000000 in
theorem pc3 (cr ch cv ca cb cc h v : Int) (w : World) (a : AskIn w P A k l ⟨3, cr, ch, cv, ca, cb, cc⟩ h v) (hz : (beginS P.s l ⟨3, cr, ch, cv, ca, cb, cc⟩ h v).1 = 0) :
    Calls Try.prog 27 #[askVal P A k l ⟨3, cr, ch, cv, ca, cb, cc⟩ h v] w fun r w' => r = .returned (.int .i64 (beginS P.s l ⟨3, cr, ch, cv, ca, cb, cc⟩ h v).2) ∧ Below w.heap.size w w' := by
  have HZ := Lib.hid hz
  clear hz a
  go_enter Try.func27, Try.ntmps27
  go_wp2
  go_ret
  refine ⟨ret_int (a := 1) ?_, by go_grown⟩
  have hz := HZ.out
  simp [beginS] at hz ⊢
  all_goals (repeat' split at hz) <;> simp_all

set_option maxRecDepth 100000 in
set_option maxHeartbeats 1000000 in
theorem pc4 (cr ch cv ca cb cc h v : Int) (w : World) (a : AskIn w P A k l ⟨4, cr, ch, cv, ca, cb, cc⟩ h v) (hz : (beginS P.s l ⟨4, cr, ch, cv, ca, cb, cc⟩ h v).1 = 0) :
    Calls Try.prog 27 #[askVal P A k l ⟨4, cr, ch, cv, ca, cb, cc⟩ h v] w fun r w' => r = .returned (.int .i64 (beginS P.s l ⟨4, cr, ch, cv, ca, cb, cc⟩ h v).2) ∧ Below w.heap.size w w' := by
  have HZ := Lib.hid hz
  clear hz a
  go_enter Try.func27, Try.ntmps27
  go_wp2
  go_ret
  refine ⟨ret_int (a := 13) ?_, by go_grown⟩
  have hz := HZ.out
  simp [beginS] at hz ⊢
  all_goals (repeat' split at hz) <;> simp_all
  all_goals (split <;> first | rfl | omega)

set_option maxRecDepth 100000 in
set_option maxHeartbeats 1000000 in
theorem pc6 (cr ch cv ca cb cc h v : Int) (w : World) (a : AskIn w P A k l ⟨6, cr, ch, cv, ca, cb, cc⟩ h v) (hz : (beginS P.s l ⟨6, cr, ch, cv, ca, cb, cc⟩ h v).1 = 0) :
    Calls Try.prog 27 #[askVal P A k l ⟨6, cr, ch, cv, ca, cb, cc⟩ h v] w fun r w' => r = .returned (.int .i64 (beginS P.s l ⟨6, cr, ch, cv, ca, cb, cc⟩ h v).2) ∧ Below w.heap.size w w' := by
  have HZ := Lib.hid hz
  clear hz a
  go_enter Try.func27, Try.ntmps27
  go_wp2
  go_ret
  refine ⟨ret_int (a := 0) ?_, by go_grown⟩
  have hz := HZ.out
  simp [beginS] at hz ⊢
  all_goals (repeat' split at hz) <;> simp_all
  all_goals (split <;> first | rfl | omega)

set_option maxRecDepth 100000 in
set_option maxHeartbeats 1000000 in
theorem pc7 (cr ch cv ca cb cc h v : Int) (w : World) (a : AskIn w P A k l ⟨7, cr, ch, cv, ca, cb, cc⟩ h v) (hz : (beginS P.s l ⟨7, cr, ch, cv, ca, cb, cc⟩ h v).1 = 0) :
    Calls Try.prog 27 #[askVal P A k l ⟨7, cr, ch, cv, ca, cb, cc⟩ h v] w fun r w' => r = .returned (.int .i64 (beginS P.s l ⟨7, cr, ch, cv, ca, cb, cc⟩ h v).2) ∧ Below w.heap.size w w' := by
  have HZ := Lib.hid hz
  clear hz a
  go_enter Try.func27, Try.ntmps27
  go_wp2
  go_ret
  refine ⟨ret_int (a := 5) ?_, by go_grown⟩
  have hz := HZ.out
  simp [beginS] at hz ⊢
  all_goals (repeat' split at hz) <;> simp_all

set_option maxRecDepth 100000 in
set_option maxHeartbeats 1000000 in
theorem pc8 (cr ch cv ca cb cc h v : Int) (w : World) (a : AskIn w P A k l ⟨8, cr, ch, cv, ca, cb, cc⟩ h v) (hz : (beginS P.s l ⟨8, cr, ch, cv, ca, cb, cc⟩ h v).1 = 0) :
    Calls Try.prog 27 #[askVal P A k l ⟨8, cr, ch, cv, ca, cb, cc⟩ h v] w fun r w' => r = .returned (.int .i64 (beginS P.s l ⟨8, cr, ch, cv, ca, cb, cc⟩ h v).2) ∧ Below w.heap.size w w' := by
  have HZ := Lib.hid hz
  clear hz a
  go_enter Try.func27, Try.ntmps27
  go_wp2
  go_ret
  refine ⟨ret_int (a := 5) ?_, by go_grown⟩
  have hz := HZ.out
  simp [beginS] at hz ⊢
  all_goals (repeat' split at hz) <;> simp_all

set_option maxRecDepth 100000 in
set_option maxHeartbeats 1000000 in
theorem pc9 (cr ch cv ca cb cc h v : Int) (w : World) (a : AskIn w P A k l ⟨9, cr, ch, cv, ca, cb, cc⟩ h v) (hz : (beginS P.s l ⟨9, cr, ch, cv, ca, cb, cc⟩ h v).1 = 0) :
    Calls Try.prog 27 #[askVal P A k l ⟨9, cr, ch, cv, ca, cb, cc⟩ h v] w fun r w' => r = .returned (.int .i64 (beginS P.s l ⟨9, cr, ch, cv, ca, cb, cc⟩ h v).2) ∧ Below w.heap.size w w' := by
  have HZ := Lib.hid hz
  clear hz a
  go_enter Try.func27, Try.ntmps27
  go_wp2
  go_ret
  refine ⟨ret_int (a := 5) ?_, by go_grown⟩
  have hz := HZ.out
  simp [beginS] at hz ⊢
  all_goals (repeat' split at hz) <;> simp_all

set_option maxRecDepth 100000 in
set_option maxHeartbeats 1000000 in
theorem pc10 (cr ch cv ca cb cc h v : Int) (w : World) (a : AskIn w P A k l ⟨10, cr, ch, cv, ca, cb, cc⟩ h v) (hz : (beginS P.s l ⟨10, cr, ch, cv, ca, cb, cc⟩ h v).1 = 0) :
    Calls Try.prog 27 #[askVal P A k l ⟨10, cr, ch, cv, ca, cb, cc⟩ h v] w fun r w' => r = .returned (.int .i64 (beginS P.s l ⟨10, cr, ch, cv, ca, cb, cc⟩ h v).2) ∧ Below w.heap.size w w' := by
  have HZ := Lib.hid hz
  clear hz a
  go_enter Try.func27, Try.ntmps27
  go_wp2
  go_ret
  refine ⟨ret_int (a := 11) ?_, by go_grown⟩
  have hz := HZ.out
  simp [beginS] at hz ⊢
  all_goals (repeat' split at hz) <;> simp_all

set_option maxRecDepth 100000 in
set_option maxHeartbeats 1000000 in
theorem pc5t (cr ch cv ca cb cc h v : Int) (w : World) (s : Int) (a : AskIn w P A k (l ++ [(s, true)]) ⟨5, cr, ch, cv, ca, cb, cc⟩ h v) (hz : (beginS P.s (l ++ [(s, true)]) ⟨5, cr, ch, cv, ca, cb, cc⟩ h v).1 = 0) :
    Calls Try.prog 27 #[askVal P A k (l ++ [(s, true)]) ⟨5, cr, ch, cv, ca, cb, cc⟩ h v] w fun r w' => r = .returned (.int .i64 (beginS P.s (l ++ [(s, true)]) ⟨5, cr, ch, cv, ca, cb, cc⟩ h v).2) ∧ Below w.heap.size w w' := by
  have HZ := Lib.hid hz
  obtain ⟨b, off, rfl, hb, hc⟩ := Ents.at_ a.ents (by simp)
  have hm := a.len
  rw [List.length_append, List.length_singleton] at hm
  obtain ⟨h0, h1⟩ := hc l.length s true (by simp)
  have g0 := (Below.refl w.heap.size w).alloc (Nat.le_refl _) (.cells #[.int .i64 P.s, .int .i64 P.t, .int .i64 P.i, .int .i64 P.h, .slice (some ⟨b, off, none⟩) (l.length + 1) k, .int .u8 5, .int .u8 cr, .int .u8 ch, .int .u8 cv, .int .i64 ca, .int .i64 cb, .int .i64 cc, .int .u64 h, .int .u64 v] 71)
  clear hc hz a
  simp only [askVal, List.length_append, List.length_singleton]
  go_enter Try.func27, Try.ntmps27
  go_wp2
  go_ret
  exact ⟨ret_int (by simp [beginS]), by go_grown⟩

set_option maxRecDepth 100000 in
set_option maxHeartbeats 1000000 in
theorem pc5f (cr ch cv ca cb cc h v : Int) (w : World) (s : Int) (a : AskIn w P A k (l ++ [(s, false)]) ⟨5, cr, ch, cv, ca, cb, cc⟩ h v) (hz : (beginS P.s (l ++ [(s, false)]) ⟨5, cr, ch, cv, ca, cb, cc⟩ h v).1 = 0) :
    Calls Try.prog 27 #[askVal P A k (l ++ [(s, false)]) ⟨5, cr, ch, cv, ca, cb, cc⟩ h v] w fun r w' => r = .returned (.int .i64 (beginS P.s (l ++ [(s, false)]) ⟨5, cr, ch, cv, ca, cb, cc⟩ h v).2) ∧ Below w.heap.size w w' := by
  have HZ := Lib.hid hz
  obtain ⟨b, off, rfl, hb, hc⟩ := Ents.at_ a.ents (by simp)
  have hm := a.len
  rw [List.length_append, List.length_singleton] at hm
  obtain ⟨h0, h1⟩ := hc l.length s false (by simp)
  have g0 := (Below.refl w.heap.size w).alloc (Nat.le_refl _) (.cells #[.int .i64 P.s, .int .i64 P.t, .int .i64 P.i, .int .i64 P.h, .slice (some ⟨b, off, none⟩) (l.length + 1) k, .int .u8 5, .int .u8 cr, .int .u8 ch, .int .u8 cv, .int .i64 ca, .int .i64 cb, .int .i64 cc, .int .u64 h, .int .u64 v] 71)
  clear hc hz a
  simp only [askVal, List.length_append, List.length_singleton]
  go_enter Try.func27, Try.ntmps27
  go_wp2
  go_ret
  exact ⟨ret_int (by simp [beginS]), by go_grown⟩

set_option maxRecDepth 100000 in
set_option maxHeartbeats 1000000 in
theorem pc11z (cr ch cv ca cb cc h v : Int) (w : World) (a : AskIn w P A k l ⟨11, cr, ch, cv, ca, cb, cc⟩ h 0) (hz : (beginS P.s l ⟨11, cr, ch, cv, ca, cb, cc⟩ h 0).1 = 0) :
    Calls Try.prog 27 #[askVal P A k l ⟨11, cr, ch, cv, ca, cb, cc⟩ h 0] w fun r w' => r = .returned (.int .i64 (beginS P.s l ⟨11, cr, ch, cv, ca, cb, cc⟩ h 0).2) ∧ Below w.heap.size w w' := by
  have HZ := Lib.hid hz
  clear hz a
  go_enter Try.func27, Try.ntmps27
  go_wp2
  go_ret
  refine ⟨ret_int (a := 12) ?_, by go_grown⟩
  have hz := HZ.out
  simp [beginS] at hz ⊢
  all_goals (repeat' split at hz) <;> simp_all

set_option maxRecDepth 100000 in
set_option maxHeartbeats 1000000 in
theorem pc11v (cr ch cv ca cb cc h v : Int) (w : World) (hv : v ≠ 0) (a : AskIn w P A k l ⟨11, cr, ch, cv, ca, cb, cc⟩ h v) (hz : (beginS P.s l ⟨11, cr, ch, cv, ca, cb, cc⟩ h v).1 = 0) :
    Calls Try.prog 27 #[askVal P A k l ⟨11, cr, ch, cv, ca, cb, cc⟩ h v] w fun r w' => r = .returned (.int .i64 (beginS P.s l ⟨11, cr, ch, cv, ca, cb, cc⟩ h v).2) ∧ Below w.heap.size w w' := by
  have HZ := Lib.hid hz
  have hv' : (v == 0) = false := by simpa using hv
  have Hv := Lib.hid hv
  clear hv
  clear hz a
  go_enter Try.func27, Try.ntmps27
  go_wp2
  go_ret
  refine ⟨ret_int (a := 7) ?_, by go_grown⟩
  have hz := HZ.out
  have hv := Hv.out
  simp [beginS, hv] at hz ⊢
  all_goals (repeat' split at hz) <;> simp_all

theorem pc_any (c : Cal) (h v : Int) (w : World) (a : AskIn w P A k l c h v) (hz : (beginS P.s l c h v).1 = 0) :
    Calls Try.prog 27 #[askVal P A k l c h v] w fun r w' => r = .returned (.int .i64 (beginS P.s l c h v).2) ∧ Below w.heap.size w w' := by
  have hop := a.cal.op
  obtain ⟨co, cr, ch, cv, ca, cb, cc⟩ := c
  dsimp only at hop
  by_cases hX : 12 ≤ co
  · have n : ∀ i : Int, i < 12 → co ≠ i := fun i hi => by omega
    simp [beginS, n] at hz
  have : co = 0 ∨ co = 1 ∨ co = 2 ∨ co = 3 ∨ co = 4 ∨ co = 5 ∨ co = 6 ∨ co = 7 ∨ co = 8 ∨ co = 9 ∨ co = 10 ∨ co = 11 := by omega
  rcases this with rfl | rfl | rfl | rfl | rfl | rfl | rfl | rfl | rfl | rfl | rfl | rfl
  · exact pc0 P A k l cr ch cv ca cb cc h v w a hz
  · exact pc1 P A k l cr ch cv ca cb cc h v w a hz
  · exact pc2 P A k l cr ch cv ca cb cc h v w a hz
  · exact pc3 P A k l cr ch cv ca cb cc h v w a hz
  · exact pc4 P A k l cr ch cv ca cb cc h v w a hz
  · rcases List.eq_nil_or_concat l with rfl | ⟨l', ⟨s, x⟩, rfl⟩
    · simp [beginS] at hz
    · rw [show l'.concat (s, x) = l' ++ [(s, x)] by simp] at *
      cases x with
      | true => exact pc5t P A k l' cr ch cv ca cb cc h v w s a hz
      | false => exact pc5f P A k l' cr ch cv ca cb cc h v w s a hz
  · exact pc6 P A k l cr ch cv ca cb cc h v w a hz
  · exact pc7 P A k l cr ch cv ca cb cc h v w a hz
  · exact pc8 P A k l cr ch cv ca cb cc h v w a hz
  · exact pc9 P A k l cr ch cv ca cb cc h v w a hz
  · exact pc10 P A k l cr ch cv ca cb cc h v w a hz
  · by_cases hv : v = 0
    · subst hv; exact pc11z P A k l cr ch cv ca cb cc h 0 w a hz
    · exact pc11v P A k l cr ch cv ca cb cc h v w hv a hz
end

end Go.Proofs.Ytaneokplagdcfaa
