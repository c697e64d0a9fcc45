/-
  No cell of these rows narrows 'for every input' (looked for: loops, veiled, ifaces, maps, wideKeys, modest, calm, conditions, laid).
  DERIVED. THE GIVEN ROWS OF THIS SEAT. 6 by the template 'for every input the law returns true; each argument reads behind the call as it read before'; 0 by the template 'total and deterministic' (their statements: YtnimaajnlkbdaaaGreatTotals.lean).
  GIVEN WITH THE SEED: the statements are not yours to turn. If you find one false, say at which input.
  Laid BY PROGRAM, IN A SANDBOX (cutbox-rows.mjs): the forced cells as the released guide's own fill.sh prints them over the translation 0407702ca6985765… (all of the seat's roots in one cut). By AI agents, Wed Nov 11 2026. No macro, syntax, notation, axiom, sorry.
-/
import Derived.Test.YtnimaajnlkbdaaaGreatChecked
import GoSem.Claim
import GoSem.ClaimJoined
import GoSem.ClaimMapViews
import Derived.JoinedTies
import Derived.KernelRfl
namespace Go.Proofs.YtnimaajnlkbdaaaGreat
/- THE CELL 'sum', in the pinned program and in every row, IS THE sha256 OF THE DUMP (.gsa) THAT YtnimaajnlkbdaaaGreatProg.lean LOADS. Nothing in Lean hashes anything: it is a label: what it is worth is what the hold of that sum in a sandbox is worth. -/
noncomputable def Tryz.pinned : Pinned := { name := "ytnimaajnlkbdaaagreat", sum := "0407702ca6985765957662795ac333d9f6a2242eb875ace4cdefee3861e6e8fb", checked := Tryz.checked }
namespace Rows
def none {H : Type} : Left H := { results := [], args := [] }

/-- 'penfoldlaw16.SlotsPlays': WHATEVER THE INPUT: true; the input reads as it did. -/
def slotsPlaysSpec : ChangeSpec := { name := "slotsPlays", fn := fun _ => fun
  | [d] => { results := [.lit (.bool true)], args := [d] }
  | _ => none }
def slotsPlaysRow : OpenClaim := { program := "ytnimaajnlkbdaaagreat", sum := "0407702ca6985765957662795ac333d9f6a2242eb875ace4cdefee3861e6e8fb", func := "penfold/penfoldlaw16.SlotsPlays", spec := "slotsPlays", unfollowed := true, recurses := true, apart := false }
def SlotsPlaysSaid : Prop := slotsPlaysRow.holds Tryz.pinned (OpenSpec.ofChange slotsPlaysSpec)

/-- ITS FALSE NEIGHBOUR: 'it returns false'. Refute it at one input. -/
def slotsPlaysWrong : ChangeSpec := { name := "slotsPlays", fn := fun _ => fun
  | [d] => { results := [.lit (.bool false)], args := [d] }
  | _ => none }
def SlotsPlaysWrongFalsely : Prop := slotsPlaysRow.holds Tryz.pinned (OpenSpec.ofChange slotsPlaysWrong)

/-- 'penfoldlaw16.SlotsBack': WHATEVER THE INPUT: true; the input reads as it did. -/
def slotsBackSpec : ChangeSpec := { name := "slotsBack", fn := fun _ => fun
  | [d] => { results := [.lit (.bool true)], args := [d] }
  | _ => none }
def slotsBackRow : OpenClaim := { program := "ytnimaajnlkbdaaagreat", sum := "0407702ca6985765957662795ac333d9f6a2242eb875ace4cdefee3861e6e8fb", func := "penfold/penfoldlaw16.SlotsBack", spec := "slotsBack", unfollowed := true, recurses := true, apart := false }
def SlotsBackSaid : Prop := slotsBackRow.holds Tryz.pinned (OpenSpec.ofChange slotsBackSpec)

/-- ITS FALSE NEIGHBOUR: 'it returns false'. Refute it at one input. -/
def slotsBackWrong : ChangeSpec := { name := "slotsBack", fn := fun _ => fun
  | [d] => { results := [.lit (.bool false)], args := [d] }
  | _ => none }
def SlotsBackWrongFalsely : Prop := slotsBackRow.holds Tryz.pinned (OpenSpec.ofChange slotsBackWrong)

/-- 'penfoldlaw16.SlotsGates': WHATEVER THE INPUT: true; the input reads as it did. -/
def slotsGatesSpec : ChangeSpec := { name := "slotsGates", fn := fun _ => fun
  | [d1, d2, d3] => { results := [.lit (.bool true)], args := [d1, d2, d3] }
  | _ => none }
def slotsGatesRow : OpenClaim := { program := "ytnimaajnlkbdaaagreat", sum := "0407702ca6985765957662795ac333d9f6a2242eb875ace4cdefee3861e6e8fb", func := "penfold/penfoldlaw16.SlotsGates", spec := "slotsGates", unfollowed := true, recurses := true, apart := false }
def SlotsGatesSaid : Prop := slotsGatesRow.holds Tryz.pinned (OpenSpec.ofChange slotsGatesSpec)

/-- ITS FALSE NEIGHBOUR: 'it returns false'. Refute it at one input. -/
def slotsGatesWrong : ChangeSpec := { name := "slotsGates", fn := fun _ => fun
  | [d1, d2, d3] => { results := [.lit (.bool false)], args := [d1, d2, d3] }
  | _ => none }
def SlotsGatesWrongFalsely : Prop := slotsGatesRow.holds Tryz.pinned (OpenSpec.ofChange slotsGatesWrong)

/-- 'penfoldlaw16.SlotsLast': WHATEVER THE INPUT: true; the input reads as it did. -/
def slotsLastSpec : ChangeSpec := { name := "slotsLast", fn := fun _ => fun
  | [d1, d2] => { results := [.lit (.bool true)], args := [d1, d2] }
  | _ => none }
def slotsLastRow : OpenClaim := { program := "ytnimaajnlkbdaaagreat", sum := "0407702ca6985765957662795ac333d9f6a2242eb875ace4cdefee3861e6e8fb", func := "penfold/penfoldlaw16.SlotsLast", spec := "slotsLast", unfollowed := true, recurses := true, apart := false }
def SlotsLastSaid : Prop := slotsLastRow.holds Tryz.pinned (OpenSpec.ofChange slotsLastSpec)

/-- ITS FALSE NEIGHBOUR: 'it returns false'. Refute it at one input. -/
def slotsLastWrong : ChangeSpec := { name := "slotsLast", fn := fun _ => fun
  | [d1, d2] => { results := [.lit (.bool false)], args := [d1, d2] }
  | _ => none }
def SlotsLastWrongFalsely : Prop := slotsLastRow.holds Tryz.pinned (OpenSpec.ofChange slotsLastWrong)

/-- 'penfoldlaw16.SlotsTouches': WHATEVER THE INPUT: true; the input reads as it did. -/
def slotsTouchesSpec : ChangeSpec := { name := "slotsTouches", fn := fun _ => fun
  | [d] => { results := [.lit (.bool true)], args := [d] }
  | _ => none }
def slotsTouchesRow : OpenClaim := { program := "ytnimaajnlkbdaaagreat", sum := "0407702ca6985765957662795ac333d9f6a2242eb875ace4cdefee3861e6e8fb", func := "penfold/penfoldlaw16.SlotsTouches", spec := "slotsTouches", unfollowed := true, recurses := true, apart := false }
def SlotsTouchesSaid : Prop := slotsTouchesRow.holds Tryz.pinned (OpenSpec.ofChange slotsTouchesSpec)

/-- ITS FALSE NEIGHBOUR: 'it returns false'. Refute it at one input. -/
def slotsTouchesWrong : ChangeSpec := { name := "slotsTouches", fn := fun _ => fun
  | [d] => { results := [.lit (.bool false)], args := [d] }
  | _ => none }
def SlotsTouchesWrongFalsely : Prop := slotsTouchesRow.holds Tryz.pinned (OpenSpec.ofChange slotsTouchesWrong)

/-- 'penfoldlaw16.SlotsStale': WHATEVER THE INPUT: true; the input reads as it did. -/
def slotsStaleSpec : ChangeSpec := { name := "slotsStale", fn := fun _ => fun
  | [d1, d2] => { results := [.lit (.bool true)], args := [d1, d2] }
  | _ => none }
def slotsStaleRow : OpenClaim := { program := "ytnimaajnlkbdaaagreat", sum := "0407702ca6985765957662795ac333d9f6a2242eb875ace4cdefee3861e6e8fb", func := "penfold/penfoldlaw16.SlotsStale", spec := "slotsStale", unfollowed := true, recurses := true, apart := false }
def SlotsStaleSaid : Prop := slotsStaleRow.holds Tryz.pinned (OpenSpec.ofChange slotsStaleSpec)

/-- ITS FALSE NEIGHBOUR: 'it returns false'. Refute it at one input. -/
def slotsStaleWrong : ChangeSpec := { name := "slotsStale", fn := fun _ => fun
  | [d1, d2] => { results := [.lit (.bool false)], args := [d1, d2] }
  | _ => none }
def SlotsStaleWrongFalsely : Prop := slotsStaleRow.holds Tryz.pinned (OpenSpec.ofChange slotsStaleWrong)

/- THE SECOND FORM. 'bulk': how many values and letters a reading holds, each counted each time it is reached (what is shared counts as often as it is met; a slice's spare places count too). A statement '..UptoSaid' is the law's where the arguments, and the package variables that the reading takes, are together of bulk at most 1048576: NARROWER than '..Said'. Prove '..Said' where nothing that the law and all that it calls make is longer than what came in: it says more and counts as full. Else prove '..UptoSaid'. A law counts once. -/
mutual
def uptoBulk {H : Type} : DataW H → Nat
  | .lit (.string bytes) => bytes.length + 1
  | .lit _ => 1
  | .nil => 1
  | .ptr d => uptoBulk d + 1
  | .slice elems spare => uptoBulkAll elems + uptoBulkAll spare + 1
  | .agg parts => uptoBulkAll parts + 1
  | .iface _ d => uptoBulk d + 1
  | .map entries => uptoBulkEntries entries + 1
  | .held _ => 1
def uptoBulkAll {H : Type} : List (DataW H) → Nat
  | [] => 0
  | d :: r => uptoBulk d + uptoBulkAll r
def uptoBulkEntries {H : Type} : List (Lit × DataW H) → Nat
  | [] => 0
  | x :: r => uptoBulkEntry x + uptoBulkEntries r
def uptoBulkEntry {H : Type} : Lit × DataW H → Nat
  | (.string bytes, d) => bytes.length + uptoBulk d + 1
  | (_, d) => uptoBulk d + 1
 end
def uptoSmall : (H : Type) → List (DataW H) → Bool := fun _ ds => decide (uptoBulkAll ds ≤ 1048576)
def OpenSpec.upto (s : _root_.Go.ChangeSpec) : _root_.Go.OpenSpec := { _root_.Go.OpenSpec.ofChange s with cond := some uptoSmall }

/-- 'penfoldlaw16.SlotsPlays', WHERE WHAT IT READS IS OF BULK AT MOST 1048576: true; the input reads as it did. -/
def slotsPlaysUptoRow : OpenClaim := { program := "ytnimaajnlkbdaaagreat", sum := "0407702ca6985765957662795ac333d9f6a2242eb875ace4cdefee3861e6e8fb", func := "penfold/penfoldlaw16.SlotsPlays", spec := "slotsPlays", unfollowed := true, recurses := true, apart := false, narrowed := true }
def SlotsPlaysUptoSaid : Prop := slotsPlaysUptoRow.holds Tryz.pinned (OpenSpec.upto slotsPlaysSpec)

/-- 'penfoldlaw16.SlotsBack', WHERE WHAT IT READS IS OF BULK AT MOST 1048576: true; the input reads as it did. -/
def slotsBackUptoRow : OpenClaim := { program := "ytnimaajnlkbdaaagreat", sum := "0407702ca6985765957662795ac333d9f6a2242eb875ace4cdefee3861e6e8fb", func := "penfold/penfoldlaw16.SlotsBack", spec := "slotsBack", unfollowed := true, recurses := true, apart := false, narrowed := true }
def SlotsBackUptoSaid : Prop := slotsBackUptoRow.holds Tryz.pinned (OpenSpec.upto slotsBackSpec)

/-- 'penfoldlaw16.SlotsGates', WHERE WHAT IT READS IS OF BULK AT MOST 1048576: true; the input reads as it did. -/
def slotsGatesUptoRow : OpenClaim := { program := "ytnimaajnlkbdaaagreat", sum := "0407702ca6985765957662795ac333d9f6a2242eb875ace4cdefee3861e6e8fb", func := "penfold/penfoldlaw16.SlotsGates", spec := "slotsGates", unfollowed := true, recurses := true, apart := false, narrowed := true }
def SlotsGatesUptoSaid : Prop := slotsGatesUptoRow.holds Tryz.pinned (OpenSpec.upto slotsGatesSpec)

/-- 'penfoldlaw16.SlotsLast', WHERE WHAT IT READS IS OF BULK AT MOST 1048576: true; the input reads as it did. -/
def slotsLastUptoRow : OpenClaim := { program := "ytnimaajnlkbdaaagreat", sum := "0407702ca6985765957662795ac333d9f6a2242eb875ace4cdefee3861e6e8fb", func := "penfold/penfoldlaw16.SlotsLast", spec := "slotsLast", unfollowed := true, recurses := true, apart := false, narrowed := true }
def SlotsLastUptoSaid : Prop := slotsLastUptoRow.holds Tryz.pinned (OpenSpec.upto slotsLastSpec)

/-- 'penfoldlaw16.SlotsTouches', WHERE WHAT IT READS IS OF BULK AT MOST 1048576: true; the input reads as it did. -/
def slotsTouchesUptoRow : OpenClaim := { program := "ytnimaajnlkbdaaagreat", sum := "0407702ca6985765957662795ac333d9f6a2242eb875ace4cdefee3861e6e8fb", func := "penfold/penfoldlaw16.SlotsTouches", spec := "slotsTouches", unfollowed := true, recurses := true, apart := false, narrowed := true }
def SlotsTouchesUptoSaid : Prop := slotsTouchesUptoRow.holds Tryz.pinned (OpenSpec.upto slotsTouchesSpec)

/-- 'penfoldlaw16.SlotsStale', WHERE WHAT IT READS IS OF BULK AT MOST 1048576: true; the input reads as it did. -/
def slotsStaleUptoRow : OpenClaim := { program := "ytnimaajnlkbdaaagreat", sum := "0407702ca6985765957662795ac333d9f6a2242eb875ace4cdefee3861e6e8fb", func := "penfold/penfoldlaw16.SlotsStale", spec := "slotsStale", unfollowed := true, recurses := true, apart := false, narrowed := true }
def SlotsStaleUptoSaid : Prop := slotsStaleUptoRow.holds Tryz.pinned (OpenSpec.upto slotsStaleSpec)

end Rows
end Go.Proofs.YtnimaajnlkbdaaaGreat
