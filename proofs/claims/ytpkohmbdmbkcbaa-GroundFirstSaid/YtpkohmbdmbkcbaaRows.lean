/-
  No cell of these rows narrows 'for every input' (looked for: loops, veiled, ifaces, maps, wideKeys, modest, calm, conditions, laid).
  DERIVED. THE GIVEN ROWS OF THIS SEAT. 6 by the template 'for every input the law returns true; each argument reads behind the call as it read before'; 0 by the template 'total and deterministic' (their statements: YtpkohmbdmbkcbaaTotals.lean).
  GIVEN WITH THE SEED: the statements are not yours to turn. If you find one false, say at which input.
  Laid BY PROGRAM, IN A SANDBOX (cutbox-rows.mjs): the forced cells as the released guide's own fill.sh prints them over the translation 6983ee953295ed4b… (all of the seat's roots in one cut). By AI agents, Wed Nov 11 2026. No macro, syntax, notation, axiom, sorry.
-/
import Derived.Test.YtpkohmbdmbkcbaaChecked
import GoSem.Claim
import GoSem.ClaimJoined
import GoSem.ClaimMapViews
import Derived.JoinedTies
import Derived.KernelRfl
namespace Go.Proofs.Ytpkohmbdmbkcbaa
/- THE CELL 'sum', in the pinned program and in every row, IS THE sha256 OF THE DUMP (.gsa) THAT YtpkohmbdmbkcbaaProg.lean LOADS. Nothing in Lean hashes anything: it is a label: what it is worth is what the hold of that sum in a sandbox is worth. -/
noncomputable def Try.pinned : Pinned := { name := "ytpkohmbdmbkcbaa", sum := "6983ee953295ed4bd8374093a201d03cb63962c8de7b86a911b36ab47689dd24", checked := Try.checked }
namespace Rows
def none {H : Type} : Left H := { results := [], args := [] }

/-- 'penfoldlaw04.GroundPlays': WHATEVER THE INPUT: true; the input reads as it did. -/
def groundPlaysSpec : ChangeSpec := { name := "groundPlays", fn := fun _ => fun
  | [d1, d2, d3] => { results := [.lit (.bool true)], args := [d1, d2, d3] }
  | _ => none }
def groundPlaysRow : OpenClaim := { program := "ytpkohmbdmbkcbaa", sum := "6983ee953295ed4bd8374093a201d03cb63962c8de7b86a911b36ab47689dd24", func := "penfold/penfoldlaw04.GroundPlays", spec := "groundPlays", unfollowed := true, recurses := true, apart := false }
def GroundPlaysSaid : Prop := groundPlaysRow.holds Try.pinned (OpenSpec.ofChange groundPlaysSpec)

/-- ITS FALSE NEIGHBOUR: 'it returns false'. Refute it at one input. -/
def groundPlaysWrong : ChangeSpec := { name := "groundPlays", fn := fun _ => fun
  | [d1, d2, d3] => { results := [.lit (.bool false)], args := [d1, d2, d3] }
  | _ => none }
def GroundPlaysWrongFalsely : Prop := groundPlaysRow.holds Try.pinned (OpenSpec.ofChange groundPlaysWrong)

/-- 'penfoldlaw04.GroundNew': WHATEVER THE INPUT: true; the input reads as it did. -/
def groundNewSpec : ChangeSpec := { name := "groundNew", fn := fun _ => fun
  | [d1, d2] => { results := [.lit (.bool true)], args := [d1, d2] }
  | _ => none }
def groundNewRow : OpenClaim := { program := "ytpkohmbdmbkcbaa", sum := "6983ee953295ed4bd8374093a201d03cb63962c8de7b86a911b36ab47689dd24", func := "penfold/penfoldlaw04.GroundNew", spec := "groundNew", unfollowed := true, recurses := true, apart := false }
def GroundNewSaid : Prop := groundNewRow.holds Try.pinned (OpenSpec.ofChange groundNewSpec)

/-- ITS FALSE NEIGHBOUR: 'it returns false'. Refute it at one input. -/
def groundNewWrong : ChangeSpec := { name := "groundNew", fn := fun _ => fun
  | [d1, d2] => { results := [.lit (.bool false)], args := [d1, d2] }
  | _ => none }
def GroundNewWrongFalsely : Prop := groundNewRow.holds Try.pinned (OpenSpec.ofChange groundNewWrong)

/-- 'penfoldlaw04.GroundApart': WHATEVER THE INPUT: true; the input reads as it did. -/
def groundApartSpec : ChangeSpec := { name := "groundApart", fn := fun _ => fun
  | [d1, d2] => { results := [.lit (.bool true)], args := [d1, d2] }
  | _ => none }
def groundApartRow : OpenClaim := { program := "ytpkohmbdmbkcbaa", sum := "6983ee953295ed4bd8374093a201d03cb63962c8de7b86a911b36ab47689dd24", func := "penfold/penfoldlaw04.GroundApart", spec := "groundApart", unfollowed := true, recurses := true, apart := false }
def GroundApartSaid : Prop := groundApartRow.holds Try.pinned (OpenSpec.ofChange groundApartSpec)

/-- ITS FALSE NEIGHBOUR: 'it returns false'. Refute it at one input. -/
def groundApartWrong : ChangeSpec := { name := "groundApart", fn := fun _ => fun
  | [d1, d2] => { results := [.lit (.bool false)], args := [d1, d2] }
  | _ => none }
def GroundApartWrongFalsely : Prop := groundApartRow.holds Try.pinned (OpenSpec.ofChange groundApartWrong)

/-- 'penfoldlaw04.GroundFirst': WHATEVER THE INPUT: true; the input reads as it did. -/
def groundFirstSpec : ChangeSpec := { name := "groundFirst", fn := fun _ => fun
  | [d1, d2] => { results := [.lit (.bool true)], args := [d1, d2] }
  | _ => none }
def groundFirstRow : OpenClaim := { program := "ytpkohmbdmbkcbaa", sum := "6983ee953295ed4bd8374093a201d03cb63962c8de7b86a911b36ab47689dd24", func := "penfold/penfoldlaw04.GroundFirst", spec := "groundFirst", unfollowed := true, recurses := true, apart := false }
def GroundFirstSaid : Prop := groundFirstRow.holds Try.pinned (OpenSpec.ofChange groundFirstSpec)

/-- ITS FALSE NEIGHBOUR: 'it returns false'. Refute it at one input. -/
def groundFirstWrong : ChangeSpec := { name := "groundFirst", fn := fun _ => fun
  | [d1, d2] => { results := [.lit (.bool false)], args := [d1, d2] }
  | _ => none }
def GroundFirstWrongFalsely : Prop := groundFirstRow.holds Try.pinned (OpenSpec.ofChange groundFirstWrong)

/-- 'penfoldlaw04.GroundGives': WHATEVER THE INPUT: true; the input reads as it did. -/
def groundGivesSpec : ChangeSpec := { name := "groundGives", fn := fun _ => fun
  | [d1, d2, d3] => { results := [.lit (.bool true)], args := [d1, d2, d3] }
  | _ => none }
def groundGivesRow : OpenClaim := { program := "ytpkohmbdmbkcbaa", sum := "6983ee953295ed4bd8374093a201d03cb63962c8de7b86a911b36ab47689dd24", func := "penfold/penfoldlaw04.GroundGives", spec := "groundGives", unfollowed := true, recurses := true, apart := false }
def GroundGivesSaid : Prop := groundGivesRow.holds Try.pinned (OpenSpec.ofChange groundGivesSpec)

/-- ITS FALSE NEIGHBOUR: 'it returns false'. Refute it at one input. -/
def groundGivesWrong : ChangeSpec := { name := "groundGives", fn := fun _ => fun
  | [d1, d2, d3] => { results := [.lit (.bool false)], args := [d1, d2, d3] }
  | _ => none }
def GroundGivesWrongFalsely : Prop := groundGivesRow.holds Try.pinned (OpenSpec.ofChange groundGivesWrong)

/-- 'penfoldlaw04.GroundTurns': WHATEVER THE INPUT: true; the input reads as it did. -/
def groundTurnsSpec : ChangeSpec := { name := "groundTurns", fn := fun _ => fun
  | [d1, d2, d3] => { results := [.lit (.bool true)], args := [d1, d2, d3] }
  | _ => none }
def groundTurnsRow : OpenClaim := { program := "ytpkohmbdmbkcbaa", sum := "6983ee953295ed4bd8374093a201d03cb63962c8de7b86a911b36ab47689dd24", func := "penfold/penfoldlaw04.GroundTurns", spec := "groundTurns", unfollowed := true, recurses := true, apart := false }
def GroundTurnsSaid : Prop := groundTurnsRow.holds Try.pinned (OpenSpec.ofChange groundTurnsSpec)

/-- ITS FALSE NEIGHBOUR: 'it returns false'. Refute it at one input. -/
def groundTurnsWrong : ChangeSpec := { name := "groundTurns", fn := fun _ => fun
  | [d1, d2, d3] => { results := [.lit (.bool false)], args := [d1, d2, d3] }
  | _ => none }
def GroundTurnsWrongFalsely : Prop := groundTurnsRow.holds Try.pinned (OpenSpec.ofChange groundTurnsWrong)

/- THE SECOND FORM. 'bulk': how many values and letters a reading holds, each counted each time it is reached (what is shared counts as often as it is met; a slice's spare places count too). A statement '..UptoSaid' is the law's where the arguments, and the package variables that the reading takes, are together of bulk at most 1048576: NARROWER than '..Said'. Prove '..Said' where nothing that the law and all that it calls make is longer than what came in: it says more and counts as full. Else prove '..UptoSaid'. A law counts once. -/
mutual
def uptoBulk {H : Type} : DataW H → Nat
  | .lit (.string bytes) => bytes.length + 1
  | .lit _ => 1
  | .nil => 1
  | .ptr d => uptoBulk d + 1
  | .slice elems spare => uptoBulkAll elems + uptoBulkAll spare + 1
  | .agg parts => uptoBulkAll parts + 1
  | .iface _ d => uptoBulk d + 1
  | .map entries => uptoBulkEntries entries + 1
  | .held _ => 1
def uptoBulkAll {H : Type} : List (DataW H) → Nat
  | [] => 0
  | d :: r => uptoBulk d + uptoBulkAll r
def uptoBulkEntries {H : Type} : List (Lit × DataW H) → Nat
  | [] => 0
  | x :: r => uptoBulkEntry x + uptoBulkEntries r
def uptoBulkEntry {H : Type} : Lit × DataW H → Nat
  | (.string bytes, d) => bytes.length + uptoBulk d + 1
  | (_, d) => uptoBulk d + 1
 end
def uptoSmall : (H : Type) → List (DataW H) → Bool := fun _ ds => decide (uptoBulkAll ds ≤ 1048576)
def OpenSpec.upto (s : _root_.Go.ChangeSpec) : _root_.Go.OpenSpec := { _root_.Go.OpenSpec.ofChange s with cond := some uptoSmall }

/-- 'penfoldlaw04.GroundPlays', WHERE WHAT IT READS IS OF BULK AT MOST 1048576: true; the input reads as it did. -/
def groundPlaysUptoRow : OpenClaim := { program := "ytpkohmbdmbkcbaa", sum := "6983ee953295ed4bd8374093a201d03cb63962c8de7b86a911b36ab47689dd24", func := "penfold/penfoldlaw04.GroundPlays", spec := "groundPlays", unfollowed := true, recurses := true, apart := false, narrowed := true }
def GroundPlaysUptoSaid : Prop := groundPlaysUptoRow.holds Try.pinned (OpenSpec.upto groundPlaysSpec)

/-- 'penfoldlaw04.GroundNew', WHERE WHAT IT READS IS OF BULK AT MOST 1048576: true; the input reads as it did. -/
def groundNewUptoRow : OpenClaim := { program := "ytpkohmbdmbkcbaa", sum := "6983ee953295ed4bd8374093a201d03cb63962c8de7b86a911b36ab47689dd24", func := "penfold/penfoldlaw04.GroundNew", spec := "groundNew", unfollowed := true, recurses := true, apart := false, narrowed := true }
def GroundNewUptoSaid : Prop := groundNewUptoRow.holds Try.pinned (OpenSpec.upto groundNewSpec)

/-- 'penfoldlaw04.GroundApart', WHERE WHAT IT READS IS OF BULK AT MOST 1048576: true; the input reads as it did. -/
def groundApartUptoRow : OpenClaim := { program := "ytpkohmbdmbkcbaa", sum := "6983ee953295ed4bd8374093a201d03cb63962c8de7b86a911b36ab47689dd24", func := "penfold/penfoldlaw04.GroundApart", spec := "groundApart", unfollowed := true, recurses := true, apart := false, narrowed := true }
def GroundApartUptoSaid : Prop := groundApartUptoRow.holds Try.pinned (OpenSpec.upto groundApartSpec)

/-- 'penfoldlaw04.GroundFirst', WHERE WHAT IT READS IS OF BULK AT MOST 1048576: true; the input reads as it did. -/
def groundFirstUptoRow : OpenClaim := { program := "ytpkohmbdmbkcbaa", sum := "6983ee953295ed4bd8374093a201d03cb63962c8de7b86a911b36ab47689dd24", func := "penfold/penfoldlaw04.GroundFirst", spec := "groundFirst", unfollowed := true, recurses := true, apart := false, narrowed := true }
def GroundFirstUptoSaid : Prop := groundFirstUptoRow.holds Try.pinned (OpenSpec.upto groundFirstSpec)

/-- 'penfoldlaw04.GroundGives', WHERE WHAT IT READS IS OF BULK AT MOST 1048576: true; the input reads as it did. -/
def groundGivesUptoRow : OpenClaim := { program := "ytpkohmbdmbkcbaa", sum := "6983ee953295ed4bd8374093a201d03cb63962c8de7b86a911b36ab47689dd24", func := "penfold/penfoldlaw04.GroundGives", spec := "groundGives", unfollowed := true, recurses := true, apart := false, narrowed := true }
def GroundGivesUptoSaid : Prop := groundGivesUptoRow.holds Try.pinned (OpenSpec.upto groundGivesSpec)

/-- 'penfoldlaw04.GroundTurns', WHERE WHAT IT READS IS OF BULK AT MOST 1048576: true; the input reads as it did. -/
def groundTurnsUptoRow : OpenClaim := { program := "ytpkohmbdmbkcbaa", sum := "6983ee953295ed4bd8374093a201d03cb63962c8de7b86a911b36ab47689dd24", func := "penfold/penfoldlaw04.GroundTurns", spec := "groundTurns", unfollowed := true, recurses := true, apart := false, narrowed := true }
def GroundTurnsUptoSaid : Prop := groundTurnsUptoRow.holds Try.pinned (OpenSpec.upto groundTurnsSpec)

end Rows
end Go.Proofs.Ytpkohmbdmbkcbaa
