/-
  No cell of these rows narrows 'for every input' (looked for: loops, veiled, ifaces, maps, wideKeys, modest, calm, conditions, laid).
  DERIVED. THE GIVEN ROWS OF THIS SEAT. 8 by the template 'for every input the law returns true; each argument reads behind the call as it read before'; 0 by the template 'total and deterministic' (their statements: YtbijaloeilnjoaaGreatTotals.lean).
  GIVEN WITH THE SEED: the statements are not yours to turn. If you find one false, say at which input.
  Laid BY PROGRAM, IN A SANDBOX (cutbox-rows.mjs): the forced cells as the released guide's own fill.sh prints them over the translation adf88623929e9a8e… (all of the seat's roots in one cut). By AI agents, Wed Nov 11 2026. No macro, syntax, notation, axiom, sorry.
-/
import Derived.Test.YtbijaloeilnjoaaGreatChecked
import GoSem.Claim
import GoSem.ClaimJoined
import GoSem.ClaimMapViews
import Derived.JoinedTies
import Derived.KernelRfl
namespace Go.Proofs.YtbijaloeilnjoaaGreat
/- THE CELL 'sum', in the pinned program and in every row, IS THE sha256 OF THE DUMP (.gsa) THAT YtbijaloeilnjoaaGreatProg.lean LOADS. Nothing in Lean hashes anything: it is a label: what it is worth is what the hold of that sum in a sandbox is worth. -/
noncomputable def Tryz.pinned : Pinned := { name := "ytbijaloeilnjoaagreat", sum := "adf88623929e9a8e07f1a1e2816b5ba544173b70e1fc6ef16f71d5aaf5f85950", checked := Tryz.checked }
namespace Rows
def none {H : Type} : Left H := { results := [], args := [] }

/-- 'penfoldlaw18.LeavePlays': WHATEVER THE INPUT: true; the input reads as it did. -/
def leavePlaysSpec : ChangeSpec := { name := "leavePlays", fn := fun _ => fun
  | [d1, d2, d3] => { results := [.lit (.bool true)], args := [d1, d2, d3] }
  | _ => none }
def leavePlaysRow : OpenClaim := { program := "ytbijaloeilnjoaagreat", sum := "adf88623929e9a8e07f1a1e2816b5ba544173b70e1fc6ef16f71d5aaf5f85950", func := "penfold/penfoldlaw18.LeavePlays", spec := "leavePlays", unfollowed := true, recurses := true, apart := false }
def LeavePlaysSaid : Prop := leavePlaysRow.holds Tryz.pinned (OpenSpec.ofChange leavePlaysSpec)

/-- ITS FALSE NEIGHBOUR: 'it returns false'. Refute it at one input. -/
def leavePlaysWrong : ChangeSpec := { name := "leavePlays", fn := fun _ => fun
  | [d1, d2, d3] => { results := [.lit (.bool false)], args := [d1, d2, d3] }
  | _ => none }
def LeavePlaysWrongFalsely : Prop := leavePlaysRow.holds Tryz.pinned (OpenSpec.ofChange leavePlaysWrong)

/-- 'penfoldlaw18.LeaveFresh': WHATEVER THE INPUT: true; the input reads as it did. -/
def leaveFreshSpec : ChangeSpec := { name := "leaveFresh", fn := fun _ => fun
  | [d1, d2] => { results := [.lit (.bool true)], args := [d1, d2] }
  | _ => none }
def leaveFreshRow : OpenClaim := { program := "ytbijaloeilnjoaagreat", sum := "adf88623929e9a8e07f1a1e2816b5ba544173b70e1fc6ef16f71d5aaf5f85950", func := "penfold/penfoldlaw18.LeaveFresh", spec := "leaveFresh", unfollowed := true, recurses := true, apart := false }
def LeaveFreshSaid : Prop := leaveFreshRow.holds Tryz.pinned (OpenSpec.ofChange leaveFreshSpec)

/-- ITS FALSE NEIGHBOUR: 'it returns false'. Refute it at one input. -/
def leaveFreshWrong : ChangeSpec := { name := "leaveFresh", fn := fun _ => fun
  | [d1, d2] => { results := [.lit (.bool false)], args := [d1, d2] }
  | _ => none }
def LeaveFreshWrongFalsely : Prop := leaveFreshRow.holds Tryz.pinned (OpenSpec.ofChange leaveFreshWrong)

/-- 'penfoldlaw18.LeaveOrder': WHATEVER THE INPUT: true; the input reads as it did. -/
def leaveOrderSpec : ChangeSpec := { name := "leaveOrder", fn := fun _ => fun
  | [d1, d2] => { results := [.lit (.bool true)], args := [d1, d2] }
  | _ => none }
def leaveOrderRow : OpenClaim := { program := "ytbijaloeilnjoaagreat", sum := "adf88623929e9a8e07f1a1e2816b5ba544173b70e1fc6ef16f71d5aaf5f85950", func := "penfold/penfoldlaw18.LeaveOrder", spec := "leaveOrder", unfollowed := true, recurses := true, apart := false }
def LeaveOrderSaid : Prop := leaveOrderRow.holds Tryz.pinned (OpenSpec.ofChange leaveOrderSpec)

/-- ITS FALSE NEIGHBOUR: 'it returns false'. Refute it at one input. -/
def leaveOrderWrong : ChangeSpec := { name := "leaveOrder", fn := fun _ => fun
  | [d1, d2] => { results := [.lit (.bool false)], args := [d1, d2] }
  | _ => none }
def LeaveOrderWrongFalsely : Prop := leaveOrderRow.holds Tryz.pinned (OpenSpec.ofChange leaveOrderWrong)

/-- 'penfoldlaw18.LeaveHeld': WHATEVER THE INPUT: true; the input reads as it did. -/
def leaveHeldSpec : ChangeSpec := { name := "leaveHeld", fn := fun _ => fun
  | [d1, d2] => { results := [.lit (.bool true)], args := [d1, d2] }
  | _ => none }
def leaveHeldRow : OpenClaim := { program := "ytbijaloeilnjoaagreat", sum := "adf88623929e9a8e07f1a1e2816b5ba544173b70e1fc6ef16f71d5aaf5f85950", func := "penfold/penfoldlaw18.LeaveHeld", spec := "leaveHeld", unfollowed := true, recurses := true, apart := false }
def LeaveHeldSaid : Prop := leaveHeldRow.holds Tryz.pinned (OpenSpec.ofChange leaveHeldSpec)

/-- ITS FALSE NEIGHBOUR: 'it returns false'. Refute it at one input. -/
def leaveHeldWrong : ChangeSpec := { name := "leaveHeld", fn := fun _ => fun
  | [d1, d2] => { results := [.lit (.bool false)], args := [d1, d2] }
  | _ => none }
def LeaveHeldWrongFalsely : Prop := leaveHeldRow.holds Tryz.pinned (OpenSpec.ofChange leaveHeldWrong)

/-- 'penfoldlaw18.LeaveBound': WHATEVER THE INPUT: true; the input reads as it did. -/
def leaveBoundSpec : ChangeSpec := { name := "leaveBound", fn := fun _ => fun
  | [d1, d2] => { results := [.lit (.bool true)], args := [d1, d2] }
  | _ => none }
def leaveBoundRow : OpenClaim := { program := "ytbijaloeilnjoaagreat", sum := "adf88623929e9a8e07f1a1e2816b5ba544173b70e1fc6ef16f71d5aaf5f85950", func := "penfold/penfoldlaw18.LeaveBound", spec := "leaveBound", unfollowed := true, recurses := true, apart := false }
def LeaveBoundSaid : Prop := leaveBoundRow.holds Tryz.pinned (OpenSpec.ofChange leaveBoundSpec)

/-- ITS FALSE NEIGHBOUR: 'it returns false'. Refute it at one input. -/
def leaveBoundWrong : ChangeSpec := { name := "leaveBound", fn := fun _ => fun
  | [d1, d2] => { results := [.lit (.bool false)], args := [d1, d2] }
  | _ => none }
def LeaveBoundWrongFalsely : Prop := leaveBoundRow.holds Tryz.pinned (OpenSpec.ofChange leaveBoundWrong)

/-- 'penfoldlaw18.LeaveOnce': WHATEVER THE INPUT: true; the input reads as it did. -/
def leaveOnceSpec : ChangeSpec := { name := "leaveOnce", fn := fun _ => fun
  | [d1, d2, d3] => { results := [.lit (.bool true)], args := [d1, d2, d3] }
  | _ => none }
def leaveOnceRow : OpenClaim := { program := "ytbijaloeilnjoaagreat", sum := "adf88623929e9a8e07f1a1e2816b5ba544173b70e1fc6ef16f71d5aaf5f85950", func := "penfold/penfoldlaw18.LeaveOnce", spec := "leaveOnce", unfollowed := true, recurses := true, apart := false }
def LeaveOnceSaid : Prop := leaveOnceRow.holds Tryz.pinned (OpenSpec.ofChange leaveOnceSpec)

/-- ITS FALSE NEIGHBOUR: 'it returns false'. Refute it at one input. -/
def leaveOnceWrong : ChangeSpec := { name := "leaveOnce", fn := fun _ => fun
  | [d1, d2, d3] => { results := [.lit (.bool false)], args := [d1, d2, d3] }
  | _ => none }
def LeaveOnceWrongFalsely : Prop := leaveOnceRow.holds Tryz.pinned (OpenSpec.ofChange leaveOnceWrong)

/-- 'penfoldlaw18.LeaveTouches': WHATEVER THE INPUT: true; the input reads as it did. -/
def leaveTouchesSpec : ChangeSpec := { name := "leaveTouches", fn := fun _ => fun
  | [d1, d2, d3] => { results := [.lit (.bool true)], args := [d1, d2, d3] }
  | _ => none }
def leaveTouchesRow : OpenClaim := { program := "ytbijaloeilnjoaagreat", sum := "adf88623929e9a8e07f1a1e2816b5ba544173b70e1fc6ef16f71d5aaf5f85950", func := "penfold/penfoldlaw18.LeaveTouches", spec := "leaveTouches", unfollowed := true, recurses := true, apart := false }
def LeaveTouchesSaid : Prop := leaveTouchesRow.holds Tryz.pinned (OpenSpec.ofChange leaveTouchesSpec)

/-- ITS FALSE NEIGHBOUR: 'it returns false'. Refute it at one input. -/
def leaveTouchesWrong : ChangeSpec := { name := "leaveTouches", fn := fun _ => fun
  | [d1, d2, d3] => { results := [.lit (.bool false)], args := [d1, d2, d3] }
  | _ => none }
def LeaveTouchesWrongFalsely : Prop := leaveTouchesRow.holds Tryz.pinned (OpenSpec.ofChange leaveTouchesWrong)

/-- 'penfoldlaw18.LeaveSlots': WHATEVER THE INPUT: true; the input reads as it did. -/
def leaveSlotsSpec : ChangeSpec := { name := "leaveSlots", fn := fun _ => fun
  | [d1, d2, d3] => { results := [.lit (.bool true)], args := [d1, d2, d3] }
  | _ => none }
def leaveSlotsRow : OpenClaim := { program := "ytbijaloeilnjoaagreat", sum := "adf88623929e9a8e07f1a1e2816b5ba544173b70e1fc6ef16f71d5aaf5f85950", func := "penfold/penfoldlaw18.LeaveSlots", spec := "leaveSlots", unfollowed := true, recurses := true, apart := false }
def LeaveSlotsSaid : Prop := leaveSlotsRow.holds Tryz.pinned (OpenSpec.ofChange leaveSlotsSpec)

/-- ITS FALSE NEIGHBOUR: 'it returns false'. Refute it at one input. -/
def leaveSlotsWrong : ChangeSpec := { name := "leaveSlots", fn := fun _ => fun
  | [d1, d2, d3] => { results := [.lit (.bool false)], args := [d1, d2, d3] }
  | _ => none }
def LeaveSlotsWrongFalsely : Prop := leaveSlotsRow.holds Tryz.pinned (OpenSpec.ofChange leaveSlotsWrong)

/- THE SECOND FORM. 'bulk': how many values and letters a reading holds, each counted each time it is reached (what is shared counts as often as it is met; a slice's spare places count too). A statement '..UptoSaid' is the law's where the arguments, and the package variables that the reading takes, are together of bulk at most 1048576: NARROWER than '..Said'. Prove '..Said' where nothing that the law and all that it calls make is longer than what came in: it says more and counts as full. Else prove '..UptoSaid'. A law counts once. -/
mutual
def uptoBulk {H : Type} : DataW H → Nat
  | .lit (.string bytes) => bytes.length + 1
  | .lit _ => 1
  | .nil => 1
  | .ptr d => uptoBulk d + 1
  | .slice elems spare => uptoBulkAll elems + uptoBulkAll spare + 1
  | .agg parts => uptoBulkAll parts + 1
  | .iface _ d => uptoBulk d + 1
  | .map entries => uptoBulkEntries entries + 1
  | .held _ => 1
def uptoBulkAll {H : Type} : List (DataW H) → Nat
  | [] => 0
  | d :: r => uptoBulk d + uptoBulkAll r
def uptoBulkEntries {H : Type} : List (Lit × DataW H) → Nat
  | [] => 0
  | x :: r => uptoBulkEntry x + uptoBulkEntries r
def uptoBulkEntry {H : Type} : Lit × DataW H → Nat
  | (.string bytes, d) => bytes.length + uptoBulk d + 1
  | (_, d) => uptoBulk d + 1
 end
def uptoSmall : (H : Type) → List (DataW H) → Bool := fun _ ds => decide (uptoBulkAll ds ≤ 1048576)
def OpenSpec.upto (s : _root_.Go.ChangeSpec) : _root_.Go.OpenSpec := { _root_.Go.OpenSpec.ofChange s with cond := some uptoSmall }

/-- 'penfoldlaw18.LeavePlays', WHERE WHAT IT READS IS OF BULK AT MOST 1048576: true; the input reads as it did. -/
def leavePlaysUptoRow : OpenClaim := { program := "ytbijaloeilnjoaagreat", sum := "adf88623929e9a8e07f1a1e2816b5ba544173b70e1fc6ef16f71d5aaf5f85950", func := "penfold/penfoldlaw18.LeavePlays", spec := "leavePlays", unfollowed := true, recurses := true, apart := false, narrowed := true }
def LeavePlaysUptoSaid : Prop := leavePlaysUptoRow.holds Tryz.pinned (OpenSpec.upto leavePlaysSpec)

/-- 'penfoldlaw18.LeaveFresh', WHERE WHAT IT READS IS OF BULK AT MOST 1048576: true; the input reads as it did. -/
def leaveFreshUptoRow : OpenClaim := { program := "ytbijaloeilnjoaagreat", sum := "adf88623929e9a8e07f1a1e2816b5ba544173b70e1fc6ef16f71d5aaf5f85950", func := "penfold/penfoldlaw18.LeaveFresh", spec := "leaveFresh", unfollowed := true, recurses := true, apart := false, narrowed := true }
def LeaveFreshUptoSaid : Prop := leaveFreshUptoRow.holds Tryz.pinned (OpenSpec.upto leaveFreshSpec)

/-- 'penfoldlaw18.LeaveOrder', WHERE WHAT IT READS IS OF BULK AT MOST 1048576: true; the input reads as it did. -/
def leaveOrderUptoRow : OpenClaim := { program := "ytbijaloeilnjoaagreat", sum := "adf88623929e9a8e07f1a1e2816b5ba544173b70e1fc6ef16f71d5aaf5f85950", func := "penfold/penfoldlaw18.LeaveOrder", spec := "leaveOrder", unfollowed := true, recurses := true, apart := false, narrowed := true }
def LeaveOrderUptoSaid : Prop := leaveOrderUptoRow.holds Tryz.pinned (OpenSpec.upto leaveOrderSpec)

/-- 'penfoldlaw18.LeaveHeld', WHERE WHAT IT READS IS OF BULK AT MOST 1048576: true; the input reads as it did. -/
def leaveHeldUptoRow : OpenClaim := { program := "ytbijaloeilnjoaagreat", sum := "adf88623929e9a8e07f1a1e2816b5ba544173b70e1fc6ef16f71d5aaf5f85950", func := "penfold/penfoldlaw18.LeaveHeld", spec := "leaveHeld", unfollowed := true, recurses := true, apart := false, narrowed := true }
def LeaveHeldUptoSaid : Prop := leaveHeldUptoRow.holds Tryz.pinned (OpenSpec.upto leaveHeldSpec)

/-- 'penfoldlaw18.LeaveBound', WHERE WHAT IT READS IS OF BULK AT MOST 1048576: true; the input reads as it did. -/
def leaveBoundUptoRow : OpenClaim := { program := "ytbijaloeilnjoaagreat", sum := "adf88623929e9a8e07f1a1e2816b5ba544173b70e1fc6ef16f71d5aaf5f85950", func := "penfold/penfoldlaw18.LeaveBound", spec := "leaveBound", unfollowed := true, recurses := true, apart := false, narrowed := true }
def LeaveBoundUptoSaid : Prop := leaveBoundUptoRow.holds Tryz.pinned (OpenSpec.upto leaveBoundSpec)

/-- 'penfoldlaw18.LeaveOnce', WHERE WHAT IT READS IS OF BULK AT MOST 1048576: true; the input reads as it did. -/
def leaveOnceUptoRow : OpenClaim := { program := "ytbijaloeilnjoaagreat", sum := "adf88623929e9a8e07f1a1e2816b5ba544173b70e1fc6ef16f71d5aaf5f85950", func := "penfold/penfoldlaw18.LeaveOnce", spec := "leaveOnce", unfollowed := true, recurses := true, apart := false, narrowed := true }
def LeaveOnceUptoSaid : Prop := leaveOnceUptoRow.holds Tryz.pinned (OpenSpec.upto leaveOnceSpec)

/-- 'penfoldlaw18.LeaveTouches', WHERE WHAT IT READS IS OF BULK AT MOST 1048576: true; the input reads as it did. -/
def leaveTouchesUptoRow : OpenClaim := { program := "ytbijaloeilnjoaagreat", sum := "adf88623929e9a8e07f1a1e2816b5ba544173b70e1fc6ef16f71d5aaf5f85950", func := "penfold/penfoldlaw18.LeaveTouches", spec := "leaveTouches", unfollowed := true, recurses := true, apart := false, narrowed := true }
def LeaveTouchesUptoSaid : Prop := leaveTouchesUptoRow.holds Tryz.pinned (OpenSpec.upto leaveTouchesSpec)

/-- 'penfoldlaw18.LeaveSlots', WHERE WHAT IT READS IS OF BULK AT MOST 1048576: true; the input reads as it did. -/
def leaveSlotsUptoRow : OpenClaim := { program := "ytbijaloeilnjoaagreat", sum := "adf88623929e9a8e07f1a1e2816b5ba544173b70e1fc6ef16f71d5aaf5f85950", func := "penfold/penfoldlaw18.LeaveSlots", spec := "leaveSlots", unfollowed := true, recurses := true, apart := false, narrowed := true }
def LeaveSlotsUptoSaid : Prop := leaveSlotsUptoRow.holds Tryz.pinned (OpenSpec.upto leaveSlotsSpec)

end Rows
end Go.Proofs.YtbijaloeilnjoaaGreat
