/- Layer 15 in plain terms: allocations on their way, and the scopes' blocks. -/
import Derived.Test.YtnimaajnlkbdaaaGreatTakeP
namespace Go.Proofs.YtnimaajnlkbdaaaGreat
open Go.RowKit
set_option linter.unusedVariables false
set_option linter.unusedSimpArgs false

/-- a scope's block that may be -/
structure BlkOk (s : Int) (ws : List Int) (k : Nat) (c : Ctl) (ba bu tp : Int) : Prop where
 blk : Blk ws k c ba bu tp
 lt : (k : Int) ≤ s - 1
 s8 : s ≤ 8
 lo : 8 * (8 * s) ≤ ba
 hi : ba + bu ≤ 8 * ws.length
 small : ws.length ≤ 8192
 ba8 : ba % 8 = 0
 tp8 : tp % 8 = 0
 tp0 : 0 ≤ tp
 tpb : tp ≤ bu
/-- an allocation on its way -/
structure TkRun (k : Nat) (c : Ctl) (ba bu : Int) (ch : Sl) (r : Rn) : Prop where
 area : r.area = k
 ca : 0 ≤ r.c.a ∧ r.c.a ≤ 6
 cb : 0 ≤ r.c.b ∧ r.c.b ≤ 512
 cc : 0 ≤ r.c.c ∧ r.c.c ≤ 7
 said : r.said = noS
 list : r.list = noS
 asaid : r.asaid = noS
 chain : r.chain = ch
 done : r.done = false
 pcs : r.pc = 5 ∨ r.pc = 2 ∨ r.pc = 3 ∨ r.pc = 4
 nx : r.pc ≠ 5 → r.next = c.ep
 at4 : r.pc = 3 ∨ r.pc = 4 → r.at_ = ba
 wd : r.pc = 4 → r.word = bu
section
variable {s : Int} {ws : List Int} {k : Nat} {c : Ctl} {ba bu tp : Int} {r : Rn} {ch : Sl}
theorem tkIn_of (B : BlkOk s ws k c ba bu tp) (R : TkRun k c ba bu ch r) : TkIn s ws k c ba bu tp r := by
 have h1 := B.lo; have h2 := B.hi; have h3 := B.small; have h4 := B.tp0; have h5 := B.tpb; have h6 := B.ba8; have h7 := B.tp8; have h8 := B.lt; have h9 := B.s8
 refine ⟨B.blk, R.area, B.lt, B.s8, by omega, by omega, B.tp0, R.ca, R.cb, R.cc, R.said, R.pcs, fun h => ?_, fun h => ?_, fun h => ?_⟩
 ·rw [R.nx (by omega)]; exact ⟨B.blk.right.1, B.blk.right.2.1⟩
 ·rw [R.wd h]; omega
 ·rw [R.wd h, R.at4 (.inr h)]; omega
end
end Go.Proofs.YtnimaajnlkbdaaaGreat
