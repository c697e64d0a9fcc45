/- The walks of package chain's readers (Area, at, Reach, Parent, Above) and of slices.Index at entries. -/
import Derived.Test.YtconieenkeajiaaChainPlain
namespace Go.Proofs.Ytconieenkeajiaa
open Go.RowKit

@[go_sem] theorem eqgEnt : Try.prog.eqGuardType Try.prog.depth 87 = false := by kernel_rfl
theorem stoodEnt : Try.prog.stoodInHeld 87 = false := by kernel_rfl
theorem undEnt : Try.prog.underlying 87 = some (.struct (Try.prog.fieldsOf 87)) := by kernel_rfl
theorem intEql (d : Nat) (s s' : Int) (w : World) : (Op.equalIn (d + 1) 3 (.int .i64 s) (.int .i64 s')).run Try.prog w = .ok (s == s') w := run_equalIn_int w d _ _ _ _ _ Try.underlying3
theorem boolEql (d : Nat) (s s' : Bool) (w : World) : (Op.equalIn (d + 1) 4 (.bool s) (.bool s')).run Try.prog w = .ok (s == s') w := run_equalIn_bool' w d _ _ _ Try.underlying4

@[go_sem high] theorem eqlEnt (w : World) (s s' : Int) (x x' : Bool) : (binOp .eql 87 (.agg #[.int .i64 s, .bool x]) (.agg #[.int .i64 s', .bool x'])).run Try.prog w = .ok (.bool (s == s' && x == x')) w := by
  rw [run_eql_struct, run_equalIn_agg _ _ _ _ _ undEnt stoodEnt]
  simp [Op.eqFields, go_sem, intEql, boolEql]
  by_cases h : s = s' <;> by_cases h' : x = x' <;> simp [h, h']

end Go.Proofs.Ytconieenkeajiaa
