/- Bounds and plans: the walks of num.Within. -/
import Derived.Test.YtbijaloeilnjoaaGreatMA
namespace Go.Proofs.YtbijaloeilnjoaaGreat
open Go.RowKit

set_option maxHeartbeats 400000 in
theorem within_any (n lo hi : Int) (w : World) :
    Calls Tryz.prog 103 #[.int .i64 n, .int .i64 lo, .int .i64 hi] w fun e w' => e = .returned (.bool (inB n lo hi)) ∧ w' = w := by
  by_cases h : lo ≤ n
  · rw [show inB n lo hi = decide (n ≤ hi) by simp [inB, h]]
    have hd : decide (lo ≤ n) = true := decide_eq_true h
    go_enter Tryz.func103, Tryz.ntmps103
    go_wp2
    go_ret
    exact ⟨rfl, rfl⟩
  · rw [inB_f (fun h' => h h'.1)]
    have hd : decide (lo ≤ n) = false := decide_eq_false h
    go_enter Tryz.func103, Tryz.ntmps103
    go_wp2
    go_ret
    exact ⟨rfl, rfl⟩

/-- a plan -/
structure Pln where
  s : Int
  t : Int
  i : Int
  h : Int
abbrev Pln.val (p : Pln) : Value := .agg #[.int .i64 p.s, .int .i64 p.t, .int .i64 p.i, .int .i64 p.h]
end Go.Proofs.YtbijaloeilnjoaaGreat
