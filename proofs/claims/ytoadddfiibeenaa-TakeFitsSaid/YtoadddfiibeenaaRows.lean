/-
  No cell of these rows narrows 'for every input' (looked for: loops, veiled, ifaces, maps, wideKeys, modest, calm, conditions, laid).
  DERIVED. THE GIVEN ROWS OF THIS SEAT. 4 by the template 'for every input the law returns true; each argument reads behind the call as it read before'; 0 by the template 'total and deterministic' (their statements: YtoadddfiibeenaaTotals.lean).
  GIVEN WITH THE SEED: the statements are not yours to turn. If you find one false, say at which input.
  Laid BY PROGRAM, IN A SANDBOX (cutbox-rows.mjs): the forced cells as the released guide's own fill.sh prints them over the translation 0f3dd09df7e644e5… (all of the seat's roots in one cut). By AI agents, Wed Nov 11 2026. No macro, syntax, notation, axiom, sorry.
-/
import Derived.Test.YtoadddfiibeenaaChecked
import GoSem.Claim
import GoSem.ClaimJoined
import GoSem.ClaimMapViews
import Derived.JoinedTies
import Derived.KernelRfl
namespace Go.Proofs.Ytoadddfiibeenaa
/- THE CELL 'sum', in the pinned program and in every row, IS THE sha256 OF THE DUMP (.gsa) THAT YtoadddfiibeenaaProg.lean LOADS. Nothing in Lean hashes anything: it is a label: what it is worth is what the hold of that sum in a sandbox is worth. -/
noncomputable def Try.pinned : Pinned := { name := "ytoadddfiibeenaa", sum := "0f3dd09df7e644e5e4d8b84561f03bdafae4f660ba91343aabec3fa1b13f191c", checked := Try.checked }
namespace Rows
def none {H : Type} : Left H := { results := [], args := [] }

/-- 'penfoldlaw15.TakePlays': WHATEVER THE INPUT: true; the input reads as it did. -/
def takePlaysSpec : ChangeSpec := { name := "takePlays", fn := fun _ => fun
  | [d1, d2, d3] => { results := [.lit (.bool true)], args := [d1, d2, d3] }
  | _ => none }
def takePlaysRow : OpenClaim := { program := "ytoadddfiibeenaa", sum := "0f3dd09df7e644e5e4d8b84561f03bdafae4f660ba91343aabec3fa1b13f191c", func := "penfold/penfoldlaw15.TakePlays", spec := "takePlays", unfollowed := true, recurses := true, apart := false }
def TakePlaysSaid : Prop := takePlaysRow.holds Try.pinned (OpenSpec.ofChange takePlaysSpec)

/-- ITS FALSE NEIGHBOUR: 'it returns false'. Refute it at one input. -/
def takePlaysWrong : ChangeSpec := { name := "takePlays", fn := fun _ => fun
  | [d1, d2, d3] => { results := [.lit (.bool false)], args := [d1, d2, d3] }
  | _ => none }
def TakePlaysWrongFalsely : Prop := takePlaysRow.holds Try.pinned (OpenSpec.ofChange takePlaysWrong)

/-- 'penfoldlaw15.TakeFits': WHATEVER THE INPUT: true; the input reads as it did. -/
def takeFitsSpec : ChangeSpec := { name := "takeFits", fn := fun _ => fun
  | [d1, d2, d3] => { results := [.lit (.bool true)], args := [d1, d2, d3] }
  | _ => none }
def takeFitsRow : OpenClaim := { program := "ytoadddfiibeenaa", sum := "0f3dd09df7e644e5e4d8b84561f03bdafae4f660ba91343aabec3fa1b13f191c", func := "penfold/penfoldlaw15.TakeFits", spec := "takeFits", unfollowed := true, recurses := true, apart := false }
def TakeFitsSaid : Prop := takeFitsRow.holds Try.pinned (OpenSpec.ofChange takeFitsSpec)

/-- ITS FALSE NEIGHBOUR: 'it returns false'. Refute it at one input. -/
def takeFitsWrong : ChangeSpec := { name := "takeFits", fn := fun _ => fun
  | [d1, d2, d3] => { results := [.lit (.bool false)], args := [d1, d2, d3] }
  | _ => none }
def TakeFitsWrongFalsely : Prop := takeFitsRow.holds Try.pinned (OpenSpec.ofChange takeFitsWrong)

/-- 'penfoldlaw15.TakeShares': WHATEVER THE INPUT: true; the input reads as it did. -/
def takeSharesSpec : ChangeSpec := { name := "takeShares", fn := fun _ => fun
  | [d1, d2, d3] => { results := [.lit (.bool true)], args := [d1, d2, d3] }
  | _ => none }
def takeSharesRow : OpenClaim := { program := "ytoadddfiibeenaa", sum := "0f3dd09df7e644e5e4d8b84561f03bdafae4f660ba91343aabec3fa1b13f191c", func := "penfold/penfoldlaw15.TakeShares", spec := "takeShares", unfollowed := true, recurses := true, apart := false }
def TakeSharesSaid : Prop := takeSharesRow.holds Try.pinned (OpenSpec.ofChange takeSharesSpec)

/-- ITS FALSE NEIGHBOUR: 'it returns false'. Refute it at one input. -/
def takeSharesWrong : ChangeSpec := { name := "takeShares", fn := fun _ => fun
  | [d1, d2, d3] => { results := [.lit (.bool false)], args := [d1, d2, d3] }
  | _ => none }
def TakeSharesWrongFalsely : Prop := takeSharesRow.holds Try.pinned (OpenSpec.ofChange takeSharesWrong)

/-- 'penfoldlaw15.TakeTouches': WHATEVER THE INPUT: true; the input reads as it did. -/
def takeTouchesSpec : ChangeSpec := { name := "takeTouches", fn := fun _ => fun
  | [d1, d2, d3] => { results := [.lit (.bool true)], args := [d1, d2, d3] }
  | _ => none }
def takeTouchesRow : OpenClaim := { program := "ytoadddfiibeenaa", sum := "0f3dd09df7e644e5e4d8b84561f03bdafae4f660ba91343aabec3fa1b13f191c", func := "penfold/penfoldlaw15.TakeTouches", spec := "takeTouches", unfollowed := true, recurses := true, apart := false }
def TakeTouchesSaid : Prop := takeTouchesRow.holds Try.pinned (OpenSpec.ofChange takeTouchesSpec)

/-- ITS FALSE NEIGHBOUR: 'it returns false'. Refute it at one input. -/
def takeTouchesWrong : ChangeSpec := { name := "takeTouches", fn := fun _ => fun
  | [d1, d2, d3] => { results := [.lit (.bool false)], args := [d1, d2, d3] }
  | _ => none }
def TakeTouchesWrongFalsely : Prop := takeTouchesRow.holds Try.pinned (OpenSpec.ofChange takeTouchesWrong)

/- THE SECOND FORM. 'bulk': how many values and letters a reading holds, each counted each time it is reached (what is shared counts as often as it is met; a slice's spare places count too). A statement '..UptoSaid' is the law's where the arguments, and the package variables that the reading takes, are together of bulk at most 1048576: NARROWER than '..Said'. Prove '..Said' where nothing that the law and all that it calls make is longer than what came in: it says more and counts as full. Else prove '..UptoSaid'. A law counts once. -/
mutual
def uptoBulk {H : Type} : DataW H → Nat
  | .lit (.string bytes) => bytes.length + 1
  | .lit _ => 1
  | .nil => 1
  | .ptr d => uptoBulk d + 1
  | .slice elems spare => uptoBulkAll elems + uptoBulkAll spare + 1
  | .agg parts => uptoBulkAll parts + 1
  | .iface _ d => uptoBulk d + 1
  | .map entries => uptoBulkEntries entries + 1
  | .held _ => 1
def uptoBulkAll {H : Type} : List (DataW H) → Nat
  | [] => 0
  | d :: r => uptoBulk d + uptoBulkAll r
def uptoBulkEntries {H : Type} : List (Lit × DataW H) → Nat
  | [] => 0
  | x :: r => uptoBulkEntry x + uptoBulkEntries r
def uptoBulkEntry {H : Type} : Lit × DataW H → Nat
  | (.string bytes, d) => bytes.length + uptoBulk d + 1
  | (_, d) => uptoBulk d + 1
 end
def uptoSmall : (H : Type) → List (DataW H) → Bool := fun _ ds => decide (uptoBulkAll ds ≤ 1048576)
def OpenSpec.upto (s : _root_.Go.ChangeSpec) : _root_.Go.OpenSpec := { _root_.Go.OpenSpec.ofChange s with cond := some uptoSmall }

/-- 'penfoldlaw15.TakePlays', WHERE WHAT IT READS IS OF BULK AT MOST 1048576: true; the input reads as it did. -/
def takePlaysUptoRow : OpenClaim := { program := "ytoadddfiibeenaa", sum := "0f3dd09df7e644e5e4d8b84561f03bdafae4f660ba91343aabec3fa1b13f191c", func := "penfold/penfoldlaw15.TakePlays", spec := "takePlays", unfollowed := true, recurses := true, apart := false, narrowed := true }
def TakePlaysUptoSaid : Prop := takePlaysUptoRow.holds Try.pinned (OpenSpec.upto takePlaysSpec)

/-- 'penfoldlaw15.TakeFits', WHERE WHAT IT READS IS OF BULK AT MOST 1048576: true; the input reads as it did. -/
def takeFitsUptoRow : OpenClaim := { program := "ytoadddfiibeenaa", sum := "0f3dd09df7e644e5e4d8b84561f03bdafae4f660ba91343aabec3fa1b13f191c", func := "penfold/penfoldlaw15.TakeFits", spec := "takeFits", unfollowed := true, recurses := true, apart := false, narrowed := true }
def TakeFitsUptoSaid : Prop := takeFitsUptoRow.holds Try.pinned (OpenSpec.upto takeFitsSpec)

/-- 'penfoldlaw15.TakeShares', WHERE WHAT IT READS IS OF BULK AT MOST 1048576: true; the input reads as it did. -/
def takeSharesUptoRow : OpenClaim := { program := "ytoadddfiibeenaa", sum := "0f3dd09df7e644e5e4d8b84561f03bdafae4f660ba91343aabec3fa1b13f191c", func := "penfold/penfoldlaw15.TakeShares", spec := "takeShares", unfollowed := true, recurses := true, apart := false, narrowed := true }
def TakeSharesUptoSaid : Prop := takeSharesUptoRow.holds Try.pinned (OpenSpec.upto takeSharesSpec)

/-- 'penfoldlaw15.TakeTouches', WHERE WHAT IT READS IS OF BULK AT MOST 1048576: true; the input reads as it did. -/
def takeTouchesUptoRow : OpenClaim := { program := "ytoadddfiibeenaa", sum := "0f3dd09df7e644e5e4d8b84561f03bdafae4f660ba91343aabec3fa1b13f191c", func := "penfold/penfoldlaw15.TakeTouches", spec := "takeTouches", unfollowed := true, recurses := true, apart := false, narrowed := true }
def TakeTouchesUptoSaid : Prop := takeTouchesUptoRow.holds Try.pinned (OpenSpec.upto takeTouchesSpec)

end Rows
end Go.Proofs.Ytoadddfiibeenaa
