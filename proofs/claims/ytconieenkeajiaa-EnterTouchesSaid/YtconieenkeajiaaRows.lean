/-
  No cell of these rows narrows 'for every input' (looked for: loops, veiled, ifaces, maps, wideKeys, modest, calm, conditions, laid).
  DERIVED. THE GIVEN ROWS OF THIS SEAT. 6 by the template 'for every input the law returns true; each argument reads behind the call as it read before'; 0 by the template 'total and deterministic' (their statements: YtconieenkeajiaaTotals.lean).
  GIVEN WITH THE SEED: the statements are not yours to turn. If you find one false, say at which input.
  Laid BY PROGRAM, IN A SANDBOX (cutbox-rows.mjs): the forced cells as the released guide's own fill.sh prints them over the translation 9cc49cae635c6541… (all of the seat's roots in one cut). By AI agents, Wed Nov 11 2026. No macro, syntax, notation, axiom, sorry.
-/
import Derived.Test.YtconieenkeajiaaChecked
import GoSem.Claim
import GoSem.ClaimJoined
import GoSem.ClaimMapViews
import Derived.JoinedTies
import Derived.KernelRfl
namespace Go.Proofs.Ytconieenkeajiaa
/- THE CELL 'sum', in the pinned program and in every row, IS THE sha256 OF THE DUMP (.gsa) THAT YtconieenkeajiaaProg.lean LOADS. Nothing in Lean hashes anything: it is a label: what it is worth is what the hold of that sum in a sandbox is worth. -/
noncomputable def Try.pinned : Pinned := { name := "ytconieenkeajiaa", sum := "9cc49cae635c6541c91f92c7a2f66e672136f45715fe1705cc010c1c4c8c55ae", checked := Try.checked }
namespace Rows
def none {H : Type} : Left H := { results := [], args := [] }

/-- 'penfoldlaw17.EnterPlays': WHATEVER THE INPUT: true; the input reads as it did. -/
def enterPlaysSpec : ChangeSpec := { name := "enterPlays", fn := fun _ => fun
  | [d1, d2] => { results := [.lit (.bool true)], args := [d1, d2] }
  | _ => none }
def enterPlaysRow : OpenClaim := { program := "ytconieenkeajiaa", sum := "9cc49cae635c6541c91f92c7a2f66e672136f45715fe1705cc010c1c4c8c55ae", func := "penfold/penfoldlaw17.EnterPlays", spec := "enterPlays", unfollowed := true, recurses := true, apart := false }
def EnterPlaysSaid : Prop := enterPlaysRow.holds Try.pinned (OpenSpec.ofChange enterPlaysSpec)

/-- ITS FALSE NEIGHBOUR: 'it returns false'. Refute it at one input. -/
def enterPlaysWrong : ChangeSpec := { name := "enterPlays", fn := fun _ => fun
  | [d1, d2] => { results := [.lit (.bool false)], args := [d1, d2] }
  | _ => none }
def EnterPlaysWrongFalsely : Prop := enterPlaysRow.holds Try.pinned (OpenSpec.ofChange enterPlaysWrong)

/-- 'penfoldlaw17.EnterCounts': WHATEVER THE INPUT: true; the input reads as it did. -/
def enterCountsSpec : ChangeSpec := { name := "enterCounts", fn := fun _ => fun
  | [d1, d2] => { results := [.lit (.bool true)], args := [d1, d2] }
  | _ => none }
def enterCountsRow : OpenClaim := { program := "ytconieenkeajiaa", sum := "9cc49cae635c6541c91f92c7a2f66e672136f45715fe1705cc010c1c4c8c55ae", func := "penfold/penfoldlaw17.EnterCounts", spec := "enterCounts", unfollowed := true, recurses := true, apart := false }
def EnterCountsSaid : Prop := enterCountsRow.holds Try.pinned (OpenSpec.ofChange enterCountsSpec)

/-- ITS FALSE NEIGHBOUR: 'it returns false'. Refute it at one input. -/
def enterCountsWrong : ChangeSpec := { name := "enterCounts", fn := fun _ => fun
  | [d1, d2] => { results := [.lit (.bool false)], args := [d1, d2] }
  | _ => none }
def EnterCountsWrongFalsely : Prop := enterCountsRow.holds Try.pinned (OpenSpec.ofChange enterCountsWrong)

/-- 'penfoldlaw17.EnterWaits': WHATEVER THE INPUT: true; the input reads as it did. -/
def enterWaitsSpec : ChangeSpec := { name := "enterWaits", fn := fun _ => fun
  | [d1, d2, d3] => { results := [.lit (.bool true)], args := [d1, d2, d3] }
  | _ => none }
def enterWaitsRow : OpenClaim := { program := "ytconieenkeajiaa", sum := "9cc49cae635c6541c91f92c7a2f66e672136f45715fe1705cc010c1c4c8c55ae", func := "penfold/penfoldlaw17.EnterWaits", spec := "enterWaits", unfollowed := true, recurses := true, apart := false }
def EnterWaitsSaid : Prop := enterWaitsRow.holds Try.pinned (OpenSpec.ofChange enterWaitsSpec)

/-- ITS FALSE NEIGHBOUR: 'it returns false'. Refute it at one input. -/
def enterWaitsWrong : ChangeSpec := { name := "enterWaits", fn := fun _ => fun
  | [d1, d2, d3] => { results := [.lit (.bool false)], args := [d1, d2, d3] }
  | _ => none }
def EnterWaitsWrongFalsely : Prop := enterWaitsRow.holds Try.pinned (OpenSpec.ofChange enterWaitsWrong)

/-- 'penfoldlaw17.EnterAlone': WHATEVER THE INPUT: true; the input reads as it did. -/
def enterAloneSpec : ChangeSpec := { name := "enterAlone", fn := fun _ => fun
  | [d1, d2] => { results := [.lit (.bool true)], args := [d1, d2] }
  | _ => none }
def enterAloneRow : OpenClaim := { program := "ytconieenkeajiaa", sum := "9cc49cae635c6541c91f92c7a2f66e672136f45715fe1705cc010c1c4c8c55ae", func := "penfold/penfoldlaw17.EnterAlone", spec := "enterAlone", unfollowed := true, recurses := true, apart := false }
def EnterAloneSaid : Prop := enterAloneRow.holds Try.pinned (OpenSpec.ofChange enterAloneSpec)

/-- ITS FALSE NEIGHBOUR: 'it returns false'. Refute it at one input. -/
def enterAloneWrong : ChangeSpec := { name := "enterAlone", fn := fun _ => fun
  | [d1, d2] => { results := [.lit (.bool false)], args := [d1, d2] }
  | _ => none }
def EnterAloneWrongFalsely : Prop := enterAloneRow.holds Try.pinned (OpenSpec.ofChange enterAloneWrong)

/-- 'penfoldlaw17.EnterAgain': WHATEVER THE INPUT: true; the input reads as it did. -/
def enterAgainSpec : ChangeSpec := { name := "enterAgain", fn := fun _ => fun
  | [d1, d2, d3] => { results := [.lit (.bool true)], args := [d1, d2, d3] }
  | _ => none }
def enterAgainRow : OpenClaim := { program := "ytconieenkeajiaa", sum := "9cc49cae635c6541c91f92c7a2f66e672136f45715fe1705cc010c1c4c8c55ae", func := "penfold/penfoldlaw17.EnterAgain", spec := "enterAgain", unfollowed := true, recurses := true, apart := false }
def EnterAgainSaid : Prop := enterAgainRow.holds Try.pinned (OpenSpec.ofChange enterAgainSpec)

/-- ITS FALSE NEIGHBOUR: 'it returns false'. Refute it at one input. -/
def enterAgainWrong : ChangeSpec := { name := "enterAgain", fn := fun _ => fun
  | [d1, d2, d3] => { results := [.lit (.bool false)], args := [d1, d2, d3] }
  | _ => none }
def EnterAgainWrongFalsely : Prop := enterAgainRow.holds Try.pinned (OpenSpec.ofChange enterAgainWrong)

/-- 'penfoldlaw17.EnterTouches': WHATEVER THE INPUT: true; the input reads as it did. -/
def enterTouchesSpec : ChangeSpec := { name := "enterTouches", fn := fun _ => fun
  | [d1, d2] => { results := [.lit (.bool true)], args := [d1, d2] }
  | _ => none }
def enterTouchesRow : OpenClaim := { program := "ytconieenkeajiaa", sum := "9cc49cae635c6541c91f92c7a2f66e672136f45715fe1705cc010c1c4c8c55ae", func := "penfold/penfoldlaw17.EnterTouches", spec := "enterTouches", unfollowed := true, recurses := true, apart := false }
def EnterTouchesSaid : Prop := enterTouchesRow.holds Try.pinned (OpenSpec.ofChange enterTouchesSpec)

/-- ITS FALSE NEIGHBOUR: 'it returns false'. Refute it at one input. -/
def enterTouchesWrong : ChangeSpec := { name := "enterTouches", fn := fun _ => fun
  | [d1, d2] => { results := [.lit (.bool false)], args := [d1, d2] }
  | _ => none }
def EnterTouchesWrongFalsely : Prop := enterTouchesRow.holds Try.pinned (OpenSpec.ofChange enterTouchesWrong)

/- THE SECOND FORM. 'bulk': how many values and letters a reading holds, each counted each time it is reached (what is shared counts as often as it is met; a slice's spare places count too). A statement '..UptoSaid' is the law's where the arguments, and the package variables that the reading takes, are together of bulk at most 1048576: NARROWER than '..Said'. Prove '..Said' where nothing that the law and all that it calls make is longer than what came in: it says more and counts as full. Else prove '..UptoSaid'. A law counts once. -/
mutual
def uptoBulk {H : Type} : DataW H → Nat
  | .lit (.string bytes) => bytes.length + 1
  | .lit _ => 1
  | .nil => 1
  | .ptr d => uptoBulk d + 1
  | .slice elems spare => uptoBulkAll elems + uptoBulkAll spare + 1
  | .agg parts => uptoBulkAll parts + 1
  | .iface _ d => uptoBulk d + 1
  | .map entries => uptoBulkEntries entries + 1
  | .held _ => 1
def uptoBulkAll {H : Type} : List (DataW H) → Nat
  | [] => 0
  | d :: r => uptoBulk d + uptoBulkAll r
def uptoBulkEntries {H : Type} : List (Lit × DataW H) → Nat
  | [] => 0
  | x :: r => uptoBulkEntry x + uptoBulkEntries r
def uptoBulkEntry {H : Type} : Lit × DataW H → Nat
  | (.string bytes, d) => bytes.length + uptoBulk d + 1
  | (_, d) => uptoBulk d + 1
 end
def uptoSmall : (H : Type) → List (DataW H) → Bool := fun _ ds => decide (uptoBulkAll ds ≤ 1048576)
def OpenSpec.upto (s : _root_.Go.ChangeSpec) : _root_.Go.OpenSpec := { _root_.Go.OpenSpec.ofChange s with cond := some uptoSmall }

/-- 'penfoldlaw17.EnterPlays', WHERE WHAT IT READS IS OF BULK AT MOST 1048576: true; the input reads as it did. -/
def enterPlaysUptoRow : OpenClaim := { program := "ytconieenkeajiaa", sum := "9cc49cae635c6541c91f92c7a2f66e672136f45715fe1705cc010c1c4c8c55ae", func := "penfold/penfoldlaw17.EnterPlays", spec := "enterPlays", unfollowed := true, recurses := true, apart := false, narrowed := true }
def EnterPlaysUptoSaid : Prop := enterPlaysUptoRow.holds Try.pinned (OpenSpec.upto enterPlaysSpec)

/-- 'penfoldlaw17.EnterCounts', WHERE WHAT IT READS IS OF BULK AT MOST 1048576: true; the input reads as it did. -/
def enterCountsUptoRow : OpenClaim := { program := "ytconieenkeajiaa", sum := "9cc49cae635c6541c91f92c7a2f66e672136f45715fe1705cc010c1c4c8c55ae", func := "penfold/penfoldlaw17.EnterCounts", spec := "enterCounts", unfollowed := true, recurses := true, apart := false, narrowed := true }
def EnterCountsUptoSaid : Prop := enterCountsUptoRow.holds Try.pinned (OpenSpec.upto enterCountsSpec)

/-- 'penfoldlaw17.EnterWaits', WHERE WHAT IT READS IS OF BULK AT MOST 1048576: true; the input reads as it did. -/
def enterWaitsUptoRow : OpenClaim := { program := "ytconieenkeajiaa", sum := "9cc49cae635c6541c91f92c7a2f66e672136f45715fe1705cc010c1c4c8c55ae", func := "penfold/penfoldlaw17.EnterWaits", spec := "enterWaits", unfollowed := true, recurses := true, apart := false, narrowed := true }
def EnterWaitsUptoSaid : Prop := enterWaitsUptoRow.holds Try.pinned (OpenSpec.upto enterWaitsSpec)

/-- 'penfoldlaw17.EnterAlone', WHERE WHAT IT READS IS OF BULK AT MOST 1048576: true; the input reads as it did. -/
def enterAloneUptoRow : OpenClaim := { program := "ytconieenkeajiaa", sum := "9cc49cae635c6541c91f92c7a2f66e672136f45715fe1705cc010c1c4c8c55ae", func := "penfold/penfoldlaw17.EnterAlone", spec := "enterAlone", unfollowed := true, recurses := true, apart := false, narrowed := true }
def EnterAloneUptoSaid : Prop := enterAloneUptoRow.holds Try.pinned (OpenSpec.upto enterAloneSpec)

/-- 'penfoldlaw17.EnterAgain', WHERE WHAT IT READS IS OF BULK AT MOST 1048576: true; the input reads as it did. -/
def enterAgainUptoRow : OpenClaim := { program := "ytconieenkeajiaa", sum := "9cc49cae635c6541c91f92c7a2f66e672136f45715fe1705cc010c1c4c8c55ae", func := "penfold/penfoldlaw17.EnterAgain", spec := "enterAgain", unfollowed := true, recurses := true, apart := false, narrowed := true }
def EnterAgainUptoSaid : Prop := enterAgainUptoRow.holds Try.pinned (OpenSpec.upto enterAgainSpec)

/-- 'penfoldlaw17.EnterTouches', WHERE WHAT IT READS IS OF BULK AT MOST 1048576: true; the input reads as it did. -/
def enterTouchesUptoRow : OpenClaim := { program := "ytconieenkeajiaa", sum := "9cc49cae635c6541c91f92c7a2f66e672136f45715fe1705cc010c1c4c8c55ae", func := "penfold/penfoldlaw17.EnterTouches", spec := "enterTouches", unfollowed := true, recurses := true, apart := false, narrowed := true }
def EnterTouchesUptoSaid : Prop := enterTouchesUptoRow.holds Try.pinned (OpenSpec.upto enterTouchesSpec)

end Rows
end Go.Proofs.Ytconieenkeajiaa
