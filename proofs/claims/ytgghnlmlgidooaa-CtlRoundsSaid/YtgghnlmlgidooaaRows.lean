/-
  No cell of these rows narrows 'for every input' (looked for: loops, veiled, ifaces, maps, wideKeys, modest, calm, conditions, laid).
  DERIVED. THE GIVEN ROWS OF THIS SEAT. 6 by the template 'for every input the law returns true; each argument reads behind the call as it read before'; 0 by the template 'total and deterministic' (their statements: YtgghnlmlgidooaaTotals.lean).
  GIVEN WITH THE SEED: the statements are not yours to turn. If you find one false, say at which input.
  Laid BY PROGRAM, IN A SANDBOX (cutbox-rows.mjs): the forced cells as the released guide's own fill.sh prints them over the translation 27295b6bd8d72666… (all of the seat's roots in one cut). By AI agents, Wed Nov 11 2026. No macro, syntax, notation, axiom, sorry.
-/
import Derived.Test.YtgghnlmlgidooaaChecked
import GoSem.Claim
import GoSem.ClaimJoined
import GoSem.ClaimMapViews
import Derived.JoinedTies
import Derived.KernelRfl
namespace Go.Proofs.Ytgghnlmlgidooaa
/- THE CELL 'sum', in the pinned program and in every row, IS THE sha256 OF THE DUMP (.gsa) THAT YtgghnlmlgidooaaProg.lean LOADS. Nothing in Lean hashes anything: it is a label: what it is worth is what the hold of that sum in a sandbox is worth. -/
noncomputable def Try.pinned : Pinned := { name := "ytgghnlmlgidooaa", sum := "27295b6bd8d72666e7c0f0f9671a386ce107e30b7ff4829635ba14bf07badf9d", checked := Try.checked }
namespace Rows
def none {H : Type} : Left H := { results := [], args := [] }

/-- 'penfoldlaw03.CtlParts': WHATEVER THE INPUT: true; the input reads as it did. -/
def ctlPartsSpec : ChangeSpec := { name := "ctlParts", fn := fun _ => fun
  | [d1, d2] => { results := [.lit (.bool true)], args := [d1, d2] }
  | _ => none }
def ctlPartsRow : OpenClaim := { program := "ytgghnlmlgidooaa", sum := "27295b6bd8d72666e7c0f0f9671a386ce107e30b7ff4829635ba14bf07badf9d", func := "penfold/penfoldlaw03.CtlParts", spec := "ctlParts", apart := false }
def CtlPartsSaid : Prop := ctlPartsRow.holds Try.pinned (OpenSpec.ofChange ctlPartsSpec)

/-- ITS FALSE NEIGHBOUR: 'it returns false'. Refute it at one input. -/
def ctlPartsWrong : ChangeSpec := { name := "ctlParts", fn := fun _ => fun
  | [d1, d2] => { results := [.lit (.bool false)], args := [d1, d2] }
  | _ => none }
def CtlPartsWrongFalsely : Prop := ctlPartsRow.holds Try.pinned (OpenSpec.ofChange ctlPartsWrong)

/-- 'penfoldlaw03.CtlBack': WHATEVER THE INPUT: true; the input reads as it did. -/
def ctlBackSpec : ChangeSpec := { name := "ctlBack", fn := fun _ => fun
  | [d1, d2, d3] => { results := [.lit (.bool true)], args := [d1, d2, d3] }
  | _ => none }
def ctlBackRow : OpenClaim := { program := "ytgghnlmlgidooaa", sum := "27295b6bd8d72666e7c0f0f9671a386ce107e30b7ff4829635ba14bf07badf9d", func := "penfold/penfoldlaw03.CtlBack", spec := "ctlBack", apart := false }
def CtlBackSaid : Prop := ctlBackRow.holds Try.pinned (OpenSpec.ofChange ctlBackSpec)

/-- ITS FALSE NEIGHBOUR: 'it returns false'. Refute it at one input. -/
def ctlBackWrong : ChangeSpec := { name := "ctlBack", fn := fun _ => fun
  | [d1, d2, d3] => { results := [.lit (.bool false)], args := [d1, d2, d3] }
  | _ => none }
def CtlBackWrongFalsely : Prop := ctlBackRow.holds Try.pinned (OpenSpec.ofChange ctlBackWrong)

/-- 'penfoldlaw03.CtlRounds': WHATEVER THE INPUT: true; the input reads as it did. -/
def ctlRoundsSpec : ChangeSpec := { name := "ctlRounds", fn := fun _ => fun
  | [d1, d2, d3] => { results := [.lit (.bool true)], args := [d1, d2, d3] }
  | _ => none }
def ctlRoundsRow : OpenClaim := { program := "ytgghnlmlgidooaa", sum := "27295b6bd8d72666e7c0f0f9671a386ce107e30b7ff4829635ba14bf07badf9d", func := "penfold/penfoldlaw03.CtlRounds", spec := "ctlRounds", apart := false }
def CtlRoundsSaid : Prop := ctlRoundsRow.holds Try.pinned (OpenSpec.ofChange ctlRoundsSpec)

/-- ITS FALSE NEIGHBOUR: 'it returns false'. Refute it at one input. -/
def ctlRoundsWrong : ChangeSpec := { name := "ctlRounds", fn := fun _ => fun
  | [d1, d2, d3] => { results := [.lit (.bool false)], args := [d1, d2, d3] }
  | _ => none }
def CtlRoundsWrongFalsely : Prop := ctlRoundsRow.holds Try.pinned (OpenSpec.ofChange ctlRoundsWrong)

/-- 'penfoldlaw03.CtlEnters': WHATEVER THE INPUT: true; the input reads as it did. -/
def ctlEntersSpec : ChangeSpec := { name := "ctlEnters", fn := fun _ => fun
  | [d1, d2] => { results := [.lit (.bool true)], args := [d1, d2] }
  | _ => none }
def ctlEntersRow : OpenClaim := { program := "ytgghnlmlgidooaa", sum := "27295b6bd8d72666e7c0f0f9671a386ce107e30b7ff4829635ba14bf07badf9d", func := "penfold/penfoldlaw03.CtlEnters", spec := "ctlEnters", apart := false }
def CtlEntersSaid : Prop := ctlEntersRow.holds Try.pinned (OpenSpec.ofChange ctlEntersSpec)

/-- ITS FALSE NEIGHBOUR: 'it returns false'. Refute it at one input. -/
def ctlEntersWrong : ChangeSpec := { name := "ctlEnters", fn := fun _ => fun
  | [d1, d2] => { results := [.lit (.bool false)], args := [d1, d2] }
  | _ => none }
def CtlEntersWrongFalsely : Prop := ctlEntersRow.holds Try.pinned (OpenSpec.ofChange ctlEntersWrong)

/-- 'penfoldlaw03.CtlStates': WHATEVER THE INPUT: true; the input reads as it did. -/
def ctlStatesSpec : ChangeSpec := { name := "ctlStates", fn := fun _ => fun
  | [d1, d2] => { results := [.lit (.bool true)], args := [d1, d2] }
  | _ => none }
def ctlStatesRow : OpenClaim := { program := "ytgghnlmlgidooaa", sum := "27295b6bd8d72666e7c0f0f9671a386ce107e30b7ff4829635ba14bf07badf9d", func := "penfold/penfoldlaw03.CtlStates", spec := "ctlStates", apart := false }
def CtlStatesSaid : Prop := ctlStatesRow.holds Try.pinned (OpenSpec.ofChange ctlStatesSpec)

/-- ITS FALSE NEIGHBOUR: 'it returns false'. Refute it at one input. -/
def ctlStatesWrong : ChangeSpec := { name := "ctlStates", fn := fun _ => fun
  | [d1, d2] => { results := [.lit (.bool false)], args := [d1, d2] }
  | _ => none }
def CtlStatesWrongFalsely : Prop := ctlStatesRow.holds Try.pinned (OpenSpec.ofChange ctlStatesWrong)

/-- 'penfoldlaw03.CtlAll': WHATEVER THE INPUT: true; the input reads as it did. -/
def ctlAllSpec : ChangeSpec := { name := "ctlAll", fn := fun _ => fun
  | [d1, d2, d3] => { results := [.lit (.bool true)], args := [d1, d2, d3] }
  | _ => none }
def ctlAllRow : OpenClaim := { program := "ytgghnlmlgidooaa", sum := "27295b6bd8d72666e7c0f0f9671a386ce107e30b7ff4829635ba14bf07badf9d", func := "penfold/penfoldlaw03.CtlAll", spec := "ctlAll", apart := false }
def CtlAllSaid : Prop := ctlAllRow.holds Try.pinned (OpenSpec.ofChange ctlAllSpec)

/-- ITS FALSE NEIGHBOUR: 'it returns false'. Refute it at one input. -/
def ctlAllWrong : ChangeSpec := { name := "ctlAll", fn := fun _ => fun
  | [d1, d2, d3] => { results := [.lit (.bool false)], args := [d1, d2, d3] }
  | _ => none }
def CtlAllWrongFalsely : Prop := ctlAllRow.holds Try.pinned (OpenSpec.ofChange ctlAllWrong)

/- THE SECOND FORM. 'bulk': how many values and letters a reading holds, each counted each time it is reached (what is shared counts as often as it is met; a slice's spare places count too). A statement '..UptoSaid' is the law's where the arguments, and the package variables that the reading takes, are together of bulk at most 1048576: NARROWER than '..Said'. Prove '..Said' where nothing that the law and all that it calls make is longer than what came in: it says more and counts as full. Else prove '..UptoSaid'. A law counts once. -/
mutual
def uptoBulk {H : Type} : DataW H → Nat
  | .lit (.string bytes) => bytes.length + 1
  | .lit _ => 1
  | .nil => 1
  | .ptr d => uptoBulk d + 1
  | .slice elems spare => uptoBulkAll elems + uptoBulkAll spare + 1
  | .agg parts => uptoBulkAll parts + 1
  | .iface _ d => uptoBulk d + 1
  | .map entries => uptoBulkEntries entries + 1
  | .held _ => 1
def uptoBulkAll {H : Type} : List (DataW H) → Nat
  | [] => 0
  | d :: r => uptoBulk d + uptoBulkAll r
def uptoBulkEntries {H : Type} : List (Lit × DataW H) → Nat
  | [] => 0
  | x :: r => uptoBulkEntry x + uptoBulkEntries r
def uptoBulkEntry {H : Type} : Lit × DataW H → Nat
  | (.string bytes, d) => bytes.length + uptoBulk d + 1
  | (_, d) => uptoBulk d + 1
 end
def uptoSmall : (H : Type) → List (DataW H) → Bool := fun _ ds => decide (uptoBulkAll ds ≤ 1048576)
def OpenSpec.upto (s : _root_.Go.ChangeSpec) : _root_.Go.OpenSpec := { _root_.Go.OpenSpec.ofChange s with cond := some uptoSmall }

/-- 'penfoldlaw03.CtlParts', WHERE WHAT IT READS IS OF BULK AT MOST 1048576: true; the input reads as it did. -/
def ctlPartsUptoRow : OpenClaim := { program := "ytgghnlmlgidooaa", sum := "27295b6bd8d72666e7c0f0f9671a386ce107e30b7ff4829635ba14bf07badf9d", func := "penfold/penfoldlaw03.CtlParts", spec := "ctlParts", apart := false, narrowed := true }
def CtlPartsUptoSaid : Prop := ctlPartsUptoRow.holds Try.pinned (OpenSpec.upto ctlPartsSpec)

/-- 'penfoldlaw03.CtlBack', WHERE WHAT IT READS IS OF BULK AT MOST 1048576: true; the input reads as it did. -/
def ctlBackUptoRow : OpenClaim := { program := "ytgghnlmlgidooaa", sum := "27295b6bd8d72666e7c0f0f9671a386ce107e30b7ff4829635ba14bf07badf9d", func := "penfold/penfoldlaw03.CtlBack", spec := "ctlBack", apart := false, narrowed := true }
def CtlBackUptoSaid : Prop := ctlBackUptoRow.holds Try.pinned (OpenSpec.upto ctlBackSpec)

/-- 'penfoldlaw03.CtlRounds', WHERE WHAT IT READS IS OF BULK AT MOST 1048576: true; the input reads as it did. -/
def ctlRoundsUptoRow : OpenClaim := { program := "ytgghnlmlgidooaa", sum := "27295b6bd8d72666e7c0f0f9671a386ce107e30b7ff4829635ba14bf07badf9d", func := "penfold/penfoldlaw03.CtlRounds", spec := "ctlRounds", apart := false, narrowed := true }
def CtlRoundsUptoSaid : Prop := ctlRoundsUptoRow.holds Try.pinned (OpenSpec.upto ctlRoundsSpec)

/-- 'penfoldlaw03.CtlEnters', WHERE WHAT IT READS IS OF BULK AT MOST 1048576: true; the input reads as it did. -/
def ctlEntersUptoRow : OpenClaim := { program := "ytgghnlmlgidooaa", sum := "27295b6bd8d72666e7c0f0f9671a386ce107e30b7ff4829635ba14bf07badf9d", func := "penfold/penfoldlaw03.CtlEnters", spec := "ctlEnters", apart := false, narrowed := true }
def CtlEntersUptoSaid : Prop := ctlEntersUptoRow.holds Try.pinned (OpenSpec.upto ctlEntersSpec)

/-- 'penfoldlaw03.CtlStates', WHERE WHAT IT READS IS OF BULK AT MOST 1048576: true; the input reads as it did. -/
def ctlStatesUptoRow : OpenClaim := { program := "ytgghnlmlgidooaa", sum := "27295b6bd8d72666e7c0f0f9671a386ce107e30b7ff4829635ba14bf07badf9d", func := "penfold/penfoldlaw03.CtlStates", spec := "ctlStates", apart := false, narrowed := true }
def CtlStatesUptoSaid : Prop := ctlStatesUptoRow.holds Try.pinned (OpenSpec.upto ctlStatesSpec)

/-- 'penfoldlaw03.CtlAll', WHERE WHAT IT READS IS OF BULK AT MOST 1048576: true; the input reads as it did. -/
def ctlAllUptoRow : OpenClaim := { program := "ytgghnlmlgidooaa", sum := "27295b6bd8d72666e7c0f0f9671a386ce107e30b7ff4829635ba14bf07badf9d", func := "penfold/penfoldlaw03.CtlAll", spec := "ctlAll", apart := false, narrowed := true }
def CtlAllUptoSaid : Prop := ctlAllUptoRow.holds Try.pinned (OpenSpec.upto ctlAllSpec)

end Rows
end Go.Proofs.Ytgghnlmlgidooaa
