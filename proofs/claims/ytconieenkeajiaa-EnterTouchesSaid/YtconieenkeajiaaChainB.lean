/- The walks of slices.Clone at entries, chain.Push and chain.Pop. -/
import Derived.Test.YtconieenkeajiaaChainA
import Derived.Deep.RegionHeld3
namespace Go.Proofs.Ytconieenkeajiaa
open Go.RowKit

theorem infoEnt : (Try.prog.info? 87).map (fun i => (i.zero, i.size, i.bytes)) = some (some (.agg #[.int .i64 0, .bool false]), 2, 16) := by kernel_rfl

@[go_sem] theorem eqlEntsNil (w : World) (a : Option Addr) (n c n' c' : Nat) : (binOp .eql 34 (.slice a n c) (.slice none n' c')).run Try.prog w = .ok (.bool a.isNone) w :=
  Lib.run_eql_slice_nil w _ _ a n c n' c' Try.underlying34

/-- what a function leaves that hands back entries of its own -/
abbrev NewEnts (w : World) (l : List Ent) (v : Value) (w' : World) : Prop := NewRow w l.length (l.flatMap entCells) v w'

end Go.Proofs.Ytconieenkeajiaa
