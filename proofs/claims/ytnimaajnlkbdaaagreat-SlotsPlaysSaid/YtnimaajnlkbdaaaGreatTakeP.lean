/- Layer 15 in plain terms: what a step of an allocation makes of it, and of the words. -/
import Derived.Test.YtnimaajnlkbdaaaGreatSteps
namespace Go.Proofs.YtnimaajnlkbdaaaGreat
open Go.RowKit
set_option linter.unusedVariables false
set_option linter.unusedSimpArgs false

/-- a scope's block: what it is, where its extent begins, how great it is, how much is used -/
structure Blk (ws : List Int) (k : Nat) (c : Ctl) (ba bu tp : Int) : Prop where
 ctl : ws[8 * k]? = some (word c)
 ba : ws[8 * k + 1]? = some ba
 bu : ws[8 * k + 2]? = some bu
 tp : ws[8 * k + 3]? = some tp
 right : Right c
def takeR (c : Ctl) (ba bu tp : Int) (r : Rn) : Rn :=
 if r.pc = 5 then { r with next := c.ep, pc := 2 }
 else if r.pc = 2 then { r with at_ := ba, pc := 3 }
 else if r.pc = 3 then { r with word := bu, pc := 4 }
 else if tp + 8 * wordsN r.c.a r.c.b ≤ r.word then toldR r 0 (hdl r.area r.next ((r.at_ + tp) / 8)) noS
 else toldR r 17 0 noS
def takeW (ws : List Int) (k : Nat) (tp : Int) (r : Rn) : List Int :=
 if r.pc = 4 ∧ tp + 8 * wordsN r.c.a r.c.b ≤ r.word then
  ((ws.set (8 * k + 3) (tp + 8 * wordsN r.c.a r.c.b)).set ((r.at_ + tp) / 8).toNat (head1 (wordsN r.c.a r.c.b) r.c.a r.c.c)).set (((r.at_ + tp) / 8).toNat + 1) (head2 r.area r.next)
 else ws
/-- an allocation on its way, and its scope -/
structure TkIn (s : Int) (ws : List Int) (k : Nat) (c : Ctl) (ba bu tp : Int) (r : Rn) : Prop where
 blk : Blk ws k c ba bu tp
 area : r.area = k
 lt : (k : Int) ≤ s - 1
 s8 : s ≤ 8
 bd1 : 0 ≤ ba ∧ ba ≤ 65536
 bd2 : 0 ≤ bu ∧ bu ≤ 65536
 bd3 : 0 ≤ tp
 ca : 0 ≤ r.c.a ∧ r.c.a ≤ 6
 cb : 0 ≤ r.c.b ∧ r.c.b ≤ 512
 cc : 0 ≤ r.c.c ∧ r.c.c ≤ 7
 said : r.said = noS
 pcs : r.pc = 5 ∨ r.pc = 2 ∨ r.pc = 3 ∨ r.pc = 4
 nx : r.pc = 4 → 0 ≤ r.next ∧ r.next ≤ 16777215
 wd : r.pc = 4 → tp ≤ r.word ∧ r.word ≤ 65536
 at4 : r.pc = 4 → 8 * (8 * s) ≤ r.at_ ∧ r.at_ ≤ 65536 ∧ (r.at_ + tp) % 8 = 0 ∧ r.at_ + r.word ≤ 8 * ws.length
section
variable {s : Int} {ws : List Int} {k : Nat} {c : Ctl} {ba bu tp : Int} {r : Rn}
theorem TkIn.place (I : TkIn s ws k c ba bu tp r) (h4 : r.pc = 4) (hf : tp + 8 * wordsN r.c.a r.c.b ≤ r.word) :
  ∃ (K : Nat) (z0 z1 : Int), ws[K]? = some z0 ∧ ws[K + 1]? = some z1 ∧ 8 * k + 3 < K ∧ r.at_ + tp = ((K * 8 : Nat) : Int) ∧ 1 ≤ K ∧ ((r.at_ + tp) / 8).toNat = K ∧ (r.at_ + tp) / 8 = (K : Int) ∧ K + (wordsN r.c.a r.c.b).toNat ≤ ws.length := by
 obtain ⟨a1, a2, a3, a4⟩ := I.at4 h4
 have b3 := I.bd3
 have l := I.lt
 have hn : 2 ≤ wordsN r.c.a r.c.b := by have := I.ca; have := I.cb; unfold wordsN; omega
 have hK : ((r.at_ + tp) / 8).toNat + 1 < ws.length := by omega
 exact ⟨((r.at_ + tp) / 8).toNat, _, _, List.getElem?_eq_getElem (by omega), List.getElem?_eq_getElem hK, by omega, by omega, by omega, rfl, by omega, by omega⟩
theorem takeW_same (h : r.pc ≠ 4) : takeW ws k tp r = ws := by unfold takeW; rw [if_neg (fun e => h e.1)]
end
end Go.Proofs.YtnimaajnlkbdaaaGreat
