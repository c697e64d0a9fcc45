/- The walks of arena's Cas and Len. -/
import Derived.Test.YtconieenkeajiaaArenaC
namespace Go.Proofs.Ytconieenkeajiaa
open Go.RowKit
set_option linter.unusedVariables false

set_option maxRecDepth 100000 in
set_option maxHeartbeats 1000000 in
theorem arnCas_no (p b : Nat) (ws : List Int) (k : Nat) (x old y : Int) (w : World) (h : Arn w p b ws) (hk : ws[k]? = some x) (hne : x ≠ old) :
    Calls Try.prog 67 #[.pointer (some ⟨p, 0, none⟩), .int .i64 ((k * 8 : Nat) : Int), .int .u64 old, .int .u64 y] w fun r w' => r = .returned (.tuple #[.bool false, .int .i64 0]) ∧ w' = w := by
  have HW := Lib.hid (arnWord_any p b ws k x w h hk)
  have hne' : (x != old) = true := by simpa using hne
  clear hne h hk
  go_enter Try.func67, Try.ntmps67
  go_wp2_with (go_at_call 24; refine HW.out.mono ?_; rintro r w1 ⟨rfl, rfl⟩)
  go_ret2
  exact ⟨rfl, rfl⟩

set_option maxRecDepth 100000 in
set_option maxHeartbeats 1000000 in
theorem arnCas_yes (p b : Nat) (ws : List Int) (k : Nat) (x y : Int) (w : World) (h : Arn w p b ws) (hk : ws[k]? = some x) (hy : 0 ≤ y ∧ y < 18446744073709551616) :
    Calls Try.prog 67 #[.pointer (some ⟨p, 0, none⟩), .int .i64 ((k * 8 : Nat) : Int), .int .u64 x, .int .u64 y] w fun r w' => r = .returned (.tuple #[.bool true, .int .i64 0]) ∧ Arn w' p b (ws.set k y) ∧ Keep [b] w w' := by
  have HW := Lib.hid (arnWord_any p b ws k x w h hk)
  have HP := Lib.hid (arnPut_any p b ws k x y w h hk hy)
  clear h hk hy
  go_enter Try.func67, Try.ntmps67
  go_wp2_with fail
  refine HW.out.mono ?_
  rintro r w1 ⟨rfl, e1⟩
  rw [e1]
  clear e1 w1
  go_wp2_with fail
  refine HP.out.mono ?_
  rintro r w2 ⟨rfl, hA, hK⟩
  have HA := Lib.hid hA
  have HKp := Lib.hid hK
  clear hA hK
  go_wp2_with fail
  go_ret2
  exact ⟨rfl, HA.out, HKp.out⟩

set_option maxRecDepth 100000 in
theorem arnLen_any (p b : Nat) (ws : List Int) (w : World) (h : Arn w p b ws) :
    Calls Try.prog 54 #[.pointer (some ⟨p, 0, none⟩)] w fun r w' => r = .returned (.int .i64 ((ws.length * 8 : Nat) : Int)) ∧ w' = w := by
  obtain ⟨p0, _⟩ := box1 h.box
  have hs := h.small
  obtain ⟨n, Hnn⟩ : ∃ n : Nat, n = ws.length * 8 := ⟨_, rfl⟩
  have n1 : n ≤ 65536 := by omega
  rw [← Hnn] at p0 ⊢
  clear h hs Hnn
  go_enter Try.func54, Try.ntmps54
  go_wp2
  go_ret
  exact ⟨rfl, rfl⟩

end Go.Proofs.Ytconieenkeajiaa
