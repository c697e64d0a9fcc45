/-
  No cell of these rows narrows 'for every input' (looked for: loops, veiled, ifaces, maps, wideKeys, modest, calm, conditions, laid).
  DERIVED. THE GIVEN ROWS OF THIS SEAT. 5 by the template 'for every input the law returns true; each argument reads behind the call as it read before'; 0 by the template 'total and deterministic' (their statements: YthfjdgdpghepoaaTotals.lean).
  GIVEN WITH THE SEED: the statements are not yours to turn. If you find one false, say at which input.
  Laid BY PROGRAM, IN A SANDBOX (cutbox-rows.mjs): the forced cells as the released guide's own fill.sh prints them over the translation 258b97fe0aae23ba… (all of the seat's roots in one cut). By AI agents, Wed Nov 11 2026. No macro, syntax, notation, axiom, sorry.
-/
import Derived.Test.YthfjdgdpghepoaaChecked
import GoSem.Claim
import GoSem.ClaimJoined
import GoSem.ClaimMapViews
import Derived.JoinedTies
import Derived.KernelRfl
namespace Go.Proofs.Ythfjdgdpghepoaa
/- THE CELL 'sum', in the pinned program and in every row, IS THE sha256 OF THE DUMP (.gsa) THAT YthfjdgdpghepoaaProg.lean LOADS. Nothing in Lean hashes anything: it is a label: what it is worth is what the hold of that sum in a sandbox is worth. -/
noncomputable def Try.pinned : Pinned := { name := "ythfjdgdpghepoaa", sum := "258b97fe0aae23ba660cf3ecb98ae71a4ebed48ab0cc98e49c69ab2ce44fcbc8", checked := Try.checked }
namespace Rows
def none {H : Type} : Left H := { results := [], args := [] }

/-- 'penfoldlaw09.ChainOrders': WHATEVER THE INPUT: true; the input reads as it did. -/
def chainOrdersSpec : ChangeSpec := { name := "chainOrders", fn := fun _ => fun
  | [d1, d2] => { results := [.lit (.bool true)], args := [d1, d2] }
  | _ => none }
def chainOrdersRow : OpenClaim := { program := "ythfjdgdpghepoaa", sum := "258b97fe0aae23ba660cf3ecb98ae71a4ebed48ab0cc98e49c69ab2ce44fcbc8", func := "penfold/penfoldlaw09.ChainOrders", spec := "chainOrders", apart := false }
def ChainOrdersSaid : Prop := chainOrdersRow.holds Try.pinned (OpenSpec.ofChange chainOrdersSpec)

/-- ITS FALSE NEIGHBOUR: 'it returns false'. Refute it at one input. -/
def chainOrdersWrong : ChangeSpec := { name := "chainOrders", fn := fun _ => fun
  | [d1, d2] => { results := [.lit (.bool false)], args := [d1, d2] }
  | _ => none }
def ChainOrdersWrongFalsely : Prop := chainOrdersRow.holds Try.pinned (OpenSpec.ofChange chainOrdersWrong)

/-- 'penfoldlaw09.ChainIn': WHATEVER THE INPUT: true; the input reads as it did. -/
def chainInSpec : ChangeSpec := { name := "chainIn", fn := fun _ => fun
  | [d1, d2, d3] => { results := [.lit (.bool true)], args := [d1, d2, d3] }
  | _ => none }
def chainInRow : OpenClaim := { program := "ythfjdgdpghepoaa", sum := "258b97fe0aae23ba660cf3ecb98ae71a4ebed48ab0cc98e49c69ab2ce44fcbc8", func := "penfold/penfoldlaw09.ChainIn", spec := "chainIn", apart := false }
def ChainInSaid : Prop := chainInRow.holds Try.pinned (OpenSpec.ofChange chainInSpec)

/-- ITS FALSE NEIGHBOUR: 'it returns false'. Refute it at one input. -/
def chainInWrong : ChangeSpec := { name := "chainIn", fn := fun _ => fun
  | [d1, d2, d3] => { results := [.lit (.bool false)], args := [d1, d2, d3] }
  | _ => none }
def ChainInWrongFalsely : Prop := chainInRow.holds Try.pinned (OpenSpec.ofChange chainInWrong)

/-- 'penfoldlaw09.ChainStack': WHATEVER THE INPUT: true; the input reads as it did. -/
def chainStackSpec : ChangeSpec := { name := "chainStack", fn := fun _ => fun
  | [d] => { results := [.lit (.bool true)], args := [d] }
  | _ => none }
def chainStackRow : OpenClaim := { program := "ythfjdgdpghepoaa", sum := "258b97fe0aae23ba660cf3ecb98ae71a4ebed48ab0cc98e49c69ab2ce44fcbc8", func := "penfold/penfoldlaw09.ChainStack", spec := "chainStack", apart := false }
def ChainStackSaid : Prop := chainStackRow.holds Try.pinned (OpenSpec.ofChange chainStackSpec)

/-- ITS FALSE NEIGHBOUR: 'it returns false'. Refute it at one input. -/
def chainStackWrong : ChangeSpec := { name := "chainStack", fn := fun _ => fun
  | [d] => { results := [.lit (.bool false)], args := [d] }
  | _ => none }
def ChainStackWrongFalsely : Prop := chainStackRow.holds Try.pinned (OpenSpec.ofChange chainStackWrong)

/-- 'penfoldlaw09.ChainAll': WHATEVER THE INPUT: true; the input reads as it did. -/
def chainAllSpec : ChangeSpec := { name := "chainAll", fn := fun _ => fun
  | [d1, d2, d3] => { results := [.lit (.bool true)], args := [d1, d2, d3] }
  | _ => none }
def chainAllRow : OpenClaim := { program := "ythfjdgdpghepoaa", sum := "258b97fe0aae23ba660cf3ecb98ae71a4ebed48ab0cc98e49c69ab2ce44fcbc8", func := "penfold/penfoldlaw09.ChainAll", spec := "chainAll", apart := false }
def ChainAllSaid : Prop := chainAllRow.holds Try.pinned (OpenSpec.ofChange chainAllSpec)

/-- ITS FALSE NEIGHBOUR: 'it returns false'. Refute it at one input. -/
def chainAllWrong : ChangeSpec := { name := "chainAll", fn := fun _ => fun
  | [d1, d2, d3] => { results := [.lit (.bool false)], args := [d1, d2, d3] }
  | _ => none }
def ChainAllWrongFalsely : Prop := chainAllRow.holds Try.pinned (OpenSpec.ofChange chainAllWrong)

/-- 'penfoldlaw09.ChainPushes': WHATEVER THE INPUT: true; the input reads as it did. -/
def chainPushesSpec : ChangeSpec := { name := "chainPushes", fn := fun _ => fun
  | [d1, d2, d3] => { results := [.lit (.bool true)], args := [d1, d2, d3] }
  | _ => none }
def chainPushesRow : OpenClaim := { program := "ythfjdgdpghepoaa", sum := "258b97fe0aae23ba660cf3ecb98ae71a4ebed48ab0cc98e49c69ab2ce44fcbc8", func := "penfold/penfoldlaw09.ChainPushes", spec := "chainPushes", apart := false }
def ChainPushesSaid : Prop := chainPushesRow.holds Try.pinned (OpenSpec.ofChange chainPushesSpec)

/-- ITS FALSE NEIGHBOUR: 'it returns false'. Refute it at one input. -/
def chainPushesWrong : ChangeSpec := { name := "chainPushes", fn := fun _ => fun
  | [d1, d2, d3] => { results := [.lit (.bool false)], args := [d1, d2, d3] }
  | _ => none }
def ChainPushesWrongFalsely : Prop := chainPushesRow.holds Try.pinned (OpenSpec.ofChange chainPushesWrong)

/- THE SECOND FORM. 'bulk': how many values and letters a reading holds, each counted each time it is reached (what is shared counts as often as it is met; a slice's spare places count too). A statement '..UptoSaid' is the law's where the arguments, and the package variables that the reading takes, are together of bulk at most 1048576: NARROWER than '..Said'. Prove '..Said' where nothing that the law and all that it calls make is longer than what came in: it says more and counts as full. Else prove '..UptoSaid'. A law counts once. -/
mutual
def uptoBulk {H : Type} : DataW H → Nat
  | .lit (.string bytes) => bytes.length + 1
  | .lit _ => 1
  | .nil => 1
  | .ptr d => uptoBulk d + 1
  | .slice elems spare => uptoBulkAll elems + uptoBulkAll spare + 1
  | .agg parts => uptoBulkAll parts + 1
  | .iface _ d => uptoBulk d + 1
  | .map entries => uptoBulkEntries entries + 1
  | .held _ => 1
def uptoBulkAll {H : Type} : List (DataW H) → Nat
  | [] => 0
  | d :: r => uptoBulk d + uptoBulkAll r
def uptoBulkEntries {H : Type} : List (Lit × DataW H) → Nat
  | [] => 0
  | x :: r => uptoBulkEntry x + uptoBulkEntries r
def uptoBulkEntry {H : Type} : Lit × DataW H → Nat
  | (.string bytes, d) => bytes.length + uptoBulk d + 1
  | (_, d) => uptoBulk d + 1
 end
def uptoSmall : (H : Type) → List (DataW H) → Bool := fun _ ds => decide (uptoBulkAll ds ≤ 1048576)
def OpenSpec.upto (s : _root_.Go.ChangeSpec) : _root_.Go.OpenSpec := { _root_.Go.OpenSpec.ofChange s with cond := some uptoSmall }

/-- 'penfoldlaw09.ChainOrders', WHERE WHAT IT READS IS OF BULK AT MOST 1048576: true; the input reads as it did. -/
def chainOrdersUptoRow : OpenClaim := { program := "ythfjdgdpghepoaa", sum := "258b97fe0aae23ba660cf3ecb98ae71a4ebed48ab0cc98e49c69ab2ce44fcbc8", func := "penfold/penfoldlaw09.ChainOrders", spec := "chainOrders", apart := false, narrowed := true }
def ChainOrdersUptoSaid : Prop := chainOrdersUptoRow.holds Try.pinned (OpenSpec.upto chainOrdersSpec)

/-- 'penfoldlaw09.ChainIn', WHERE WHAT IT READS IS OF BULK AT MOST 1048576: true; the input reads as it did. -/
def chainInUptoRow : OpenClaim := { program := "ythfjdgdpghepoaa", sum := "258b97fe0aae23ba660cf3ecb98ae71a4ebed48ab0cc98e49c69ab2ce44fcbc8", func := "penfold/penfoldlaw09.ChainIn", spec := "chainIn", apart := false, narrowed := true }
def ChainInUptoSaid : Prop := chainInUptoRow.holds Try.pinned (OpenSpec.upto chainInSpec)

/-- 'penfoldlaw09.ChainStack', WHERE WHAT IT READS IS OF BULK AT MOST 1048576: true; the input reads as it did. -/
def chainStackUptoRow : OpenClaim := { program := "ythfjdgdpghepoaa", sum := "258b97fe0aae23ba660cf3ecb98ae71a4ebed48ab0cc98e49c69ab2ce44fcbc8", func := "penfold/penfoldlaw09.ChainStack", spec := "chainStack", apart := false, narrowed := true }
def ChainStackUptoSaid : Prop := chainStackUptoRow.holds Try.pinned (OpenSpec.upto chainStackSpec)

/-- 'penfoldlaw09.ChainAll', WHERE WHAT IT READS IS OF BULK AT MOST 1048576: true; the input reads as it did. -/
def chainAllUptoRow : OpenClaim := { program := "ythfjdgdpghepoaa", sum := "258b97fe0aae23ba660cf3ecb98ae71a4ebed48ab0cc98e49c69ab2ce44fcbc8", func := "penfold/penfoldlaw09.ChainAll", spec := "chainAll", apart := false, narrowed := true }
def ChainAllUptoSaid : Prop := chainAllUptoRow.holds Try.pinned (OpenSpec.upto chainAllSpec)

/-- 'penfoldlaw09.ChainPushes', WHERE WHAT IT READS IS OF BULK AT MOST 1048576: true; the input reads as it did. -/
def chainPushesUptoRow : OpenClaim := { program := "ythfjdgdpghepoaa", sum := "258b97fe0aae23ba660cf3ecb98ae71a4ebed48ab0cc98e49c69ab2ce44fcbc8", func := "penfold/penfoldlaw09.ChainPushes", spec := "chainPushes", apart := false, narrowed := true }
def ChainPushesUptoSaid : Prop := chainPushesUptoRow.holds Try.pinned (OpenSpec.upto chainPushesSpec)

end Rows
end Go.Proofs.Ythfjdgdpghepoaa
