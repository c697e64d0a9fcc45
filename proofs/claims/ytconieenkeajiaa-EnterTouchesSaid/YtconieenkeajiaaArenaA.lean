/- An arena in memory: the walks of arena's is and Word. -/
import Derived.Test.YtconieenkeajiaaArenaPlain
import Derived.Test.YtconieenkeajiaaNum
import Derived.Deep.QuietTactic
import Derived.BigQuiet
namespace Go.Proofs.Ytconieenkeajiaa
open Go.RowKit
set_option linter.unusedVariables false

/-- an arena that reads as words: its own block, and that of its bytes -/
structure Arn (w : World) (p b : Nat) (ws : List Int) : Prop where
  box : w.heap[p]? = some (.cells #[.slice (some ⟨b, 0, none⟩) (ws.length * 8) (ws.length * 8)] 80 (0, 0))
  row : w.heap[b]? = some (.cells (wsCells ws).toArray 5 (0, 0))
  ok : ∀ x ∈ ws, 0 ≤ x ∧ x < 18446744073709551616
  ne : p ≠ b
  small : ws.length ≤ 8192
  some : 1 ≤ ws.length
section
variable {w w' : World} {p b : Nat} {ws : List Int}
theorem Arn.below (h : Arn w p b ws) (hb : Below w.heap.size w w') : Arn w' p b ws := { h with box := row_below h.box hb, row := row_below h.row hb }
theorem Arn.kept {S : List Nat} (h : Arn w p b ws) (k : Keep S w w') (hp : p ∉ S) (hb : b ∉ S) : Arn w' p b ws := { h with box := k.row h.box hp, row := k.row h.row hb }
end
/-- whether a word stands at a place -/
def atB (ws : List Int) (a : Int) : Bool := decide (0 ≤ a ∧ a + 8 ≤ ws.length * 8 ∧ a % 8 = 0)

set_option maxRecDepth 100000 in
set_option maxHeartbeats 1000000 in
theorem arnIs_any (p b : Nat) (ws : List Int) (a : Int) (w : World) (h : Arn w p b ws) (ha : -9223372036854775808 ≤ a ∧ a ≤ 9223372036854775807) :
    Calls Try.prog 31 #[.pointer (some ⟨p, 0, none⟩), .int .i64 a] w fun r w' => r = .returned (.bool (atB ws a)) ∧ w' = w := by
  obtain ⟨a0, a1⟩ := ha
  have hs := h.small
  have h1 := h.some
  obtain ⟨p0, _⟩ := box1 h.box
  obtain ⟨n, Hn⟩ : ∃ n : Nat, n = ws.length * 8 := ⟨_, rfl⟩
  rw [← Hn] at p0
  have n0 : 8 ≤ n := by omega
  have n1 : n ≤ 65536 := by omega
  clear h
  cases hi : inB a 0 ((n : Int) - 8) with
  | false =>
    rw [show atB ws a = false from decide_eq_false (by have h9 : ¬ (0 ≤ a ∧ a ≤ (n : Int) - 8) := of_decide_eq_false hi; omega)]
    clear Hn hs h1
    go_enter Try.func31, Try.ntmps31
    go_wp2_with (go_at_call 53; refine (within_any _ _ _ _).mono ?_; rintro r w1 ⟨rfl, rfl⟩; rw [hi])
    go_ret
    exact ⟨rfl, rfl⟩
  | true =>
    have h9 : 0 ≤ a ∧ a ≤ (n : Int) - 8 := of_decide_eq_true hi
    obtain ⟨h90, h91⟩ := h9
    by_cases hm : a % 8 = 0
    · rw [show atB ws a = true from decide_eq_true ⟨by omega, by omega, hm⟩]
      have hm' : (a % 8 == 0) = true := by simpa using hm
      clear Hn hs h1 hm
      go_enter Try.func31, Try.ntmps31
      go_wp2_with (go_at_call 53; refine (within_any _ _ _ _).mono ?_; rintro r w1 ⟨rfl, rfl⟩; rw [hi])
      go_ret
      exact ⟨rfl, rfl⟩
    · rw [show atB ws a = false from decide_eq_false (by omega)]
      have hm' : (a % 8 == 0) = false := by simpa using hm
      clear Hn hs h1 hm
      go_enter Try.func31, Try.ntmps31
      go_wp2_with (go_at_call 53; refine (within_any _ _ _ _).mono ?_; rintro r w1 ⟨rfl, rfl⟩; rw [hi])
      go_ret
      exact ⟨rfl, rfl⟩

end Go.Proofs.Ytconieenkeajiaa
