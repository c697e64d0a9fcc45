/- Layer 15 in plain terms: allocations on their way, and the scopes' blocks. -/
import Derived.Test.YtnimaajnlkbdaaaGreatTakeP
namespace Go.Proofs.YtnimaajnlkbdaaaGreat
open Go.RowKit
set_option linter.unusedVariables false
set_option linter.unusedSimpArgs false

/-- a scope's block that may be -/
structure BlkOk (s : Int) (ws : List Int) (k : Nat) (c : Ctl) (ba bu tp : Int) : Prop where
  blk : Blk ws k c ba bu tp
  lt : (k : Int) ≤ s - 1
  s8 : s ≤ 8
  lo : 8 * (8 * s) ≤ ba
  hi : ba + bu ≤ 8 * ws.length
  small : ws.length ≤ 8192
  ba8 : ba % 8 = 0
  tp8 : tp % 8 = 0
  tp0 : 0 ≤ tp
  tpb : tp ≤ bu
/-- an allocation on its way -/
structure TkRun (k : Nat) (c : Ctl) (ba bu : Int) (ch : Sl) (r : Rn) : Prop where
  area : r.area = k
  ca : 0 ≤ r.c.a ∧ r.c.a ≤ 6
  cb : 0 ≤ r.c.b ∧ r.c.b ≤ 512
  cc : 0 ≤ r.c.c ∧ r.c.c ≤ 7
  said : r.said = noS
  list : r.list = noS
  asaid : r.asaid = noS
  chain : r.chain = ch
  done : r.done = false
  pcs : r.pc = 5 ∨ r.pc = 2 ∨ r.pc = 3 ∨ r.pc = 4
  nx : r.pc ≠ 5 → r.next = c.ep
  at4 : r.pc = 3 ∨ r.pc = 4 → r.at_ = ba
  wd : r.pc = 4 → r.word = bu
def takeT (tp : Int) (r : Rn) : Int := if r.pc = 4 ∧ tp + 8 * wordsN r.c.a r.c.b ≤ r.word then tp + 8 * wordsN r.c.a r.c.b else tp
section
variable {s : Int} {ws : List Int} {k : Nat} {c : Ctl} {ba bu tp : Int} {r : Rn} {ch : Sl}
theorem tkIn_of (B : BlkOk s ws k c ba bu tp) (R : TkRun k c ba bu ch r) : TkIn s ws k c ba bu tp r := by
  have h1 := B.lo; have h2 := B.hi; have h3 := B.small; have h4 := B.tp0; have h5 := B.tpb; have h6 := B.ba8; have h7 := B.tp8; have h8 := B.lt; have h9 := B.s8
  refine ⟨B.blk, R.area, B.lt, B.s8, by omega, by omega, B.tp0, R.ca, R.cb, R.cc, R.said, R.pcs, fun h => ?_, fun h => ?_, fun h => ?_⟩
  · rw [R.nx (by omega)]; exact ⟨B.blk.right.1, B.blk.right.2.1⟩
  · rw [R.wd h]; omega
  · rw [R.wd h, R.at4 (.inr h)]; omega
theorem wordsN_pos (R : TkRun k c ba bu ch r) : 2 ≤ wordsN r.c.a r.c.b ∧ wordsN r.c.a r.c.b ≤ 72 := by have := R.ca; have := R.cb; unfold wordsN; omega
theorem takeW_len : (takeW ws k tp r).length = ws.length := by
  unfold takeW
  split
  · simp
  · rfl
theorem takeW_get (B : BlkOk s ws k c ba bu tp) (R : TkRun k c ba bu ch r) {j : Nat} (h1 : j ≠ 8 * k + 3) (h2 : (j : Int) < 8 * s) : (takeW ws k tp r)[j]? = ws[j]? := by
  unfold takeW
  split
  · rename_i h
    obtain ⟨K, _, _, _, _, _, hK, _, hK2, hK3, _⟩ := (tkIn_of B R).place h.1 h.2
    have hl := B.lo
    have ha := R.at4 (.inr h.1)
    have ht := B.tp0
    rw [hK2, List.getElem?_set, if_neg (by omega), List.getElem?_set, if_neg (by omega), List.getElem?_set, if_neg (by omega)]
  · rfl
theorem takeW_top (B : BlkOk s ws k c ba bu tp) (R : TkRun k c ba bu ch r) : (takeW ws k tp r)[8 * k + 3]? = some (takeT tp r) := by
  unfold takeW takeT
  split
  · rename_i h
    obtain ⟨K, _, _, _, _, hlt, hK, _, hK2, hK3, _⟩ := (tkIn_of B R).place h.1 h.2
    have := (List.getElem?_eq_some_iff.1 B.blk.tp).1
    rw [hK2, List.getElem?_set, if_neg (by omega), List.getElem?_set, if_neg (by omega), List.getElem?_set, if_pos rfl, if_pos (by omega)]
  · exact B.blk.tp
theorem take_blk (B : BlkOk s ws k c ba bu tp) (R : TkRun k c ba bu ch r) : BlkOk s (takeW ws k tp r) k c ba bu (takeT tp r) := by
  have hs := B.lt
  have hw := wordsN_pos R
  have h4 := B.tp0; have h5 := B.tpb; have h7 := B.tp8
  refine ⟨⟨?_, ?_, ?_, takeW_top B R, B.blk.right⟩, B.lt, B.s8, B.lo, by rw [takeW_len]; exact B.hi, by rw [takeW_len]; exact B.small, B.ba8, ?_, ?_, ?_⟩
  · rw [takeW_get B R (by omega) (by omega)]; exact B.blk.ctl
  · rw [takeW_get B R (by omega) (by omega)]; exact B.blk.ba
  · rw [takeW_get B R (by omega) (by omega)]; exact B.blk.bu
  · unfold takeT; split <;> omega
  · unfold takeT; split <;> omega
  · unfold takeT
    split
    · rename_i h; rw [R.wd h.1] at h; exact h.2
    · exact h5
theorem take_blk_other (B : BlkOk s ws k c ba bu tp) (R : TkRun k c ba bu ch r) {j : Nat} {c' : Ctl} {ba' bu' tp' : Int} (hj : j ≠ k) (B' : BlkOk s ws j c' ba' bu' tp') : BlkOk s (takeW ws k tp r) j c' ba' bu' tp' := by
  have hs := B'.lt
  refine ⟨⟨?_, ?_, ?_, ?_, B'.blk.right⟩, B'.lt, B'.s8, B'.lo, by rw [takeW_len]; exact B'.hi, by rw [takeW_len]; exact B'.small, B'.ba8, B'.tp8, B'.tp0, B'.tpb⟩
  · rw [takeW_get B R (by omega) (by omega)]; exact B'.blk.ctl
  · rw [takeW_get B R (by omega) (by omega)]; exact B'.blk.ba
  · rw [takeW_get B R (by omega) (by omega)]; exact B'.blk.bu
  · rw [takeW_get B R (by omega) (by omega)]; exact B'.blk.tp
/-- behind a step: done, at its place; or on its way -/
theorem take_run (R : TkRun k c ba bu ch r) : ((takeR c ba bu tp r).done = true ∧ (takeR c ba bu tp r).pc = 4 ∧ r.pc = 4) ∨ (TkRun k c ba bu ch (takeR c ba bu tp r) ∧ r.pc ≠ 4) := by
  unfold takeR
  rcases R.pcs with h | h | h | h
  · rw [if_pos h]
    exact .inr ⟨{ R with pcs := .inr (.inl rfl), nx := fun _ => rfl, at4 := fun e => by simp at e, wd := fun e => by simp at e }, by omega⟩
  · rw [if_neg (by omega), if_pos h]
    exact .inr ⟨{ R with pcs := .inr (.inr (.inl rfl)), nx := fun _ => R.nx (by omega), at4 := fun _ => rfl, wd := fun e => by simp at e }, by omega⟩
  · rw [if_neg (by omega), if_neg (by omega), if_pos h]
    exact .inr ⟨{ R with pcs := .inr (.inr (.inr rfl)), nx := fun _ => R.nx (by omega), at4 := fun _ => R.at4 (.inl h), wd := fun _ => rfl }, by omega⟩
  · rw [if_neg (by omega), if_neg (by omega), if_neg (by omega)]
    refine .inl ?_
    split
    · exact ⟨rfl, h, h⟩
    · exact ⟨rfl, h, h⟩
/-- what stays in any case -/
theorem take_stays (R : TkRun k c ba bu ch r) : (takeR c ba bu tp r).chain = ch ∧ (takeR c ba bu tp r).said = noS ∧ (takeR c ba bu tp r).list = noS ∧ (takeR c ba bu tp r).asaid = noS ∧ (takeR c ba bu tp r).c = r.c ∧ (takeR c ba bu tp r).area = r.area := by
  unfold takeR
  split
  · exact ⟨R.chain, R.said, R.list, R.asaid, rfl, rfl⟩
  · split
    · exact ⟨R.chain, R.said, R.list, R.asaid, rfl, rfl⟩
    · split
      · exact ⟨R.chain, R.said, R.list, R.asaid, rfl, rfl⟩
      · split
        · exact ⟨R.chain, R.said, R.list, rfl, rfl, rfl⟩
        · exact ⟨R.chain, R.said, R.list, rfl, rfl, rfl⟩
end
end Go.Proofs.YtnimaajnlkbdaaaGreat
