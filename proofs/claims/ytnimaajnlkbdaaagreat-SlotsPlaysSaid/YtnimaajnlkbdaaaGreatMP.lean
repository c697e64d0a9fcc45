/- Layer 16 in plain terms: what a step of a load or store makes of it, and of the words. Layer 16 in plain terms: how a load or store ends, from where it begins. Layer 16 in plain terms: the verdicts of the laws' calls. -/
import Derived.Test.YtnimaajnlkbdaaaGreatLaidP
import Derived.Test.YtnimaajnlkbdaaaGreatHd
import Derived.Test.YtnimaajnlkbdaaaGreatBRefC
namespace Go.Proofs.YtnimaajnlkbdaaaGreat
open Go.RowKit
set_option linter.unusedVariables false
set_option linter.unusedSimpArgs false

/-- where an object is (in words), which scope it is of -/
def oK (i : Nat) : Nat := 32 + 16 * (i / 3) + 4 * (i % 3)
/-- what the handles tell: place, scope, epoch -/
def kC (j : Nat) : Nat := if j < 9 then oK j else if j = 9 then oK 3 else oK 4 + 1
def sC (j : Nat) : Nat := if j < 9 then j / 3 else 1
def eC (j : Nat) : Int := if j < 9 then 5 * ((j / 3 : Nat) : Int) else if j = 9 then 6 else 5
theorem hC_unpack (j : Nat) (hj : j < 11) : unpackR (hC j) = (((sC j : Int), eC j, 8 * (kC j : Int)), 0) := by
 obtain rfl | rfl | rfl | rfl | rfl | rfl | rfl | rfl | rfl | rfl | rfl : j = 0 ∨ j = 1 ∨ j = 2 ∨ j = 3 ∨ j = 4 ∨ j = 5 ∨ j = 6 ∨ j = 7 ∨ j = 8 ∨ j = 9 ∨ j = 10 := by omega
 all_goals decide
theorem hC_none : unpackR (hC 11) = ((0, 0, 0), 18) := by decide
theorem hC_bd (j : Nat) (hj : j < 12) : 0 ≤ hC j ∧ hC j ≤ 9223372036854775807 ∧ (hC j = 0 → j = 11) := by
 obtain rfl | rfl | rfl | rfl | rfl | rfl | rfl | rfl | rfl | rfl | rfl | rfl : j = 0 ∨ j = 1 ∨ j = 2 ∨ j = 3 ∨ j = 4 ∨ j = 5 ∨ j = 6 ∨ j = 7 ∨ j = 8 ∨ j = 9 ∨ j = 10 ∨ j = 11 := by omega
 all_goals decide
theorem sC_lt (j : Nat) (hj : j < 11) : sC j ≤ 2 := by unfold sC; split <;> omega

/-- words in which the objects lie: the control words may be any -/
structure Lw (C : Nat → Ctl) (ws : List Int) : Prop where
 len : ws.length = 112
 right : ∀ k, k < 4 → Right (C k)
 ctl : ∀ k, k < 4 → ws[8 * k]? = some (word (C k))
 h1 : ∀ i, i < 9 → ws[oK i]? = some (head1 4 2 0)
 h2 : ∀ i, i < 9 → ws[oK i + 1]? = some (head2 ((i / 3 : Nat) : Int) (5 * ((i / 3 : Nat) : Int)))
 sl : ∀ i b, i < 9 → b < 2 → ∃ x, ws[oK i + 2 + b]? = some x ∧ 0 ≤ x ∧ x ≤ 9223372036854775807
 pt : ∀ a, a < 4 → ∃ x, ws[8 * a + 4]? = some x ∧ 0 ≤ x ∧ x ≤ 9223372036854775807
/-- words that a store may change: slots and portals -/
def Cell (n : Nat) : Prop := (∃ i b, i < 9 ∧ b < 2 ∧ n = oK i + 2 + b) ∨ (∃ a, a < 4 ∧ n = 8 * a + 4)
theorem cell_lt {n : Nat} (h : Cell n) : n < 112 := by
 rcases h with ⟨i, b, hi, hb, rfl⟩ | ⟨a, ha, rfl⟩
 ·unfold oK; omega
 ·omega
theorem cell_ctl {n : Nat} (h : Cell n) {k : Nat} (hk : k < 4) : n ≠ 8 * k := by
 rcases h with ⟨i, b, hi, hb, rfl⟩ | ⟨a, ha, rfl⟩
 ·unfold oK; omega
 ·omega
theorem cell_h1 {n : Nat} (h : Cell n) {j : Nat} (hj : j < 9) : n ≠ oK j := by
 rcases h with ⟨i, b, hi, hb, rfl⟩ | ⟨a, ha, rfl⟩
 ·unfold oK; omega
 ·unfold oK; omega
theorem cell_h2 {n : Nat} (h : Cell n) {j : Nat} (hj : j < 9) : n ≠ oK j + 1 := by
 rcases h with ⟨i, b, hi, hb, rfl⟩ | ⟨a, ha, rfl⟩
 ·unfold oK; omega
 ·unfold oK; omega
theorem Lw.set {C : Nat → Ctl} {ws : List Int} (L : Lw C ws) {n : Nat} (hn : Cell n) {y : Int} (hy : 0 ≤ y ∧ y ≤ 9223372036854775807) : Lw C (ws.set n y) := by
 have hl := L.len
 have hn' := cell_lt hn
 have get : ∀ k, (ws.set n y)[k]? = if n = k then some y else ws[k]? := fun k => by
  rw [List.getElem?_set]
  split
  ·rename_i e; subst e; rw [if_pos (by omega)]
  ·rfl
 refine ⟨by simpa using hl, L.right, fun k hk => ?_, fun i hi => ?_, fun i hi => ?_, fun i b hi hb => ?_, fun a ha => ?_⟩
 ·rw [get, if_neg (cell_ctl hn hk)]; exact L.ctl k hk
 ·rw [get, if_neg (cell_h1 hn hi)]; exact L.h1 i hi
 ·rw [get, if_neg (cell_h2 hn hi)]; exact L.h2 i hi
 ·rw [get]
  split
  ·exact ⟨y, rfl, hy⟩
  ·exact L.sl i b hi hb
 ·rw [get]
  split
  ·exact ⟨y, rfl, hy⟩
  ·exact L.pt a ha
set_option maxRecDepth 100000 in
theorem laid_lw : Lw c16 (oW 9) := by
 refine ⟨oW_len, c16_right, fun k hk => ?_, fun i hi => ?_, fun i hi => ?_, fun i b hi hb => ?_, fun a ha => ?_⟩
 ·obtain rfl | rfl | rfl | rfl : k = 0 ∨ k = 1 ∨ k = 2 ∨ k = 3 := by omega
  all_goals kernel_rfl
 ·obtain rfl | rfl | rfl | rfl | rfl | rfl | rfl | rfl | rfl : i = 0 ∨ i = 1 ∨ i = 2 ∨ i = 3 ∨ i = 4 ∨ i = 5 ∨ i = 6 ∨ i = 7 ∨ i = 8 := by omega
  all_goals kernel_rfl
 ·obtain rfl | rfl | rfl | rfl | rfl | rfl | rfl | rfl | rfl : i = 0 ∨ i = 1 ∨ i = 2 ∨ i = 3 ∨ i = 4 ∨ i = 5 ∨ i = 6 ∨ i = 7 ∨ i = 8 := by omega
  all_goals kernel_rfl
 ·refine ⟨0, ?_, by decide, by decide⟩
  obtain rfl | rfl : b = 0 ∨ b = 1 := by omega
  all_goals
   obtain rfl | rfl | rfl | rfl | rfl | rfl | rfl | rfl | rfl : i = 0 ∨ i = 1 ∨ i = 2 ∨ i = 3 ∨ i = 4 ∨ i = 5 ∨ i = 6 ∨ i = 7 ∨ i = 8 := by omega
   all_goals kernel_rfl
 ·refine ⟨0, ?_, by decide, by decide⟩
  obtain rfl | rfl | rfl | rfl : a = 0 ∨ a = 1 ∨ a = 2 ∨ a = 3 := by omega
  all_goals kernel_rfl

/-- who is fresh goes on to nx -/
def freshR (C : Nat → Ctl) (j : Nat) (nx : Int) (r : Rn) : Rn := if (C (sC j)).ep = eC j then { r with pc := nx } else toldR r 19 0 noS
def atR (j : Nat) (r : Rn) : Int := 8 * (kC j : Int) + 16 + 8 * r.c.b
def handR (l : List Ent) (j v : Nat) (r : Rn) : Rn :=
 if j = 10 then toldR r 18 0 noS
 else if inB r.c.b 0 1 = false then toldR r 21 0 noS
 else if r.c.op = 8 then { r with at_ := atR j r, pc := 9 }
 else if v = 11 then { r with at_ := atR j r, pc := 10 }
 else if reach l (sC v) = true then { r with at_ := atR j r, pc := 7 }
 else toldR { r with at_ := atR j r } 20 0 noS
def valueR (l : List Ent) (j v : Nat) (r : Rn) : Rn :=
 if v = 10 then toldR r 18 0 noS
 else if above l (sC v) (if r.c.op = 9 then (sC j : Int) else r.c.a) = true then { r with pc := if r.c.op = 9 then 10 else 12 }
 else toldR r 22 0 noS
/-- the word that the last step looks at -/
def lastK (r : Rn) : Nat := if r.pc = 9 ∨ r.pc = 10 then (r.at_ / 8).toNat else (8 * r.c.a + 4).toNat
def slR (C : Nat → Ctl) (l : List Ent) (ws : List Int) (j v : Nat) (r : Rn) : Rn :=
 if r.pc = 5 then freshR C j 6 r
 else if r.pc = 6 then handR l j v r
 else if r.pc = 7 then freshR C v 8 r
 else if r.pc = 8 then valueR l j v r
 else if r.pc = 9 ∨ r.pc = 11 then toldR r 0 (ws[lastK r]?.getD 0) noS
 else toldR r 0 0 noS
def slW (ws : List Int) (r : Rn) : List Int := if r.pc = 10 ∨ r.pc = 12 then ws.set (lastK r) r.val else ws
/-- a load or store on its way: with the objects j and v in its registers -/
structure SlIn (C : Nat → Ctl) (l : List Ent) (j v : Nat) (r : Rn) : Prop where
 hand : r.hand = hC j
 val : r.val = hC v
 lt : j < 12 ∧ v < 12
 said : r.said = noS
 list : r.list = noS
 asaid : r.asaid = noS
 done : r.done = false
 j9 : j = 9 → (C 1).ep ≠ 6
 v9 : v = 9 → (C 1).ep ≠ 6
 pcs : (r.pc = 5 ∧ (r.c.op = 8 ∨ r.c.op = 9) ∧ j < 11) ∨ (r.pc = 6 ∧ (r.c.op = 8 ∨ r.c.op = 9) ∧ j < 11 ∧ j ≠ 9)
  ∨ ((r.pc = 7 ∨ r.pc = 8 ∧ v ≠ 9) ∧ v < 11 ∧ (r.c.op = 9 ∧ j < 9 ∧ r.at_ = atR j r ∧ 0 ≤ r.c.b ∧ r.c.b ≤ 1 ∨ r.c.op = 11 ∧ 1 ≤ r.c.a ∧ r.c.a ≤ 3))
  ∨ ((r.pc = 9 ∧ r.c.op = 8 ∨ r.pc = 10 ∧ r.c.op = 9) ∧ j < 9 ∧ r.at_ = atR j r ∧ 0 ≤ r.c.b ∧ r.c.b ≤ 1)
  ∨ ((r.pc = 11 ∧ r.c.op = 10 ∨ r.pc = 12 ∧ r.c.op = 11) ∧ 1 ≤ r.c.a ∧ r.c.a ≤ 3)
section
variable {C : Nat → Ctl} {l : List Ent} {ws : List Int} {j v : Nat} {r : Rn}
theorem SlIn.pc (I : SlIn C l j v r) : 5 ≤ r.pc ∧ r.pc ≤ 12 := by have := I.pcs; omega
theorem SlIn.at_nat (I : SlIn C l j v r) (h : r.pc = 9 ∨ r.pc = 10) : r.at_ = ((lastK r * 8 : Nat) : Int) ∧ ∃ b : Nat, b < 2 ∧ r.c.b = b ∧ j < 9 ∧ lastK r = oK j + 2 + b := by
 have hp := I.pcs
 have hk : j < 9 ∧ r.at_ = atR j r ∧ 0 ≤ r.c.b ∧ r.c.b ≤ 1 := by omega
 obtain ⟨h1, h2, h3, h4⟩ := hk
 have hK : kC j = oK j := by unfold kC; rw [if_pos h1]
 unfold atR at h2
 rw [hK] at h2
 unfold lastK
 rw [if_pos h]
 exact ⟨by omega, r.c.b.toNat, by omega, by omega, h1, by omega⟩
theorem SlIn.pt_nat (I : SlIn C l j v r) (h : r.pc = 11 ∨ r.pc = 12) : 1 ≤ r.c.a ∧ r.c.a ≤ 3 ∧ (lastK r : Int) = 8 * r.c.a + 4 ∧ ∃ a : Nat, a < 4 ∧ r.c.a = a ∧ lastK r = 8 * a + 4 := by
 have hp := I.pcs
 have hk : 1 ≤ r.c.a ∧ r.c.a ≤ 3 := by omega
 unfold lastK
 rw [if_neg (by omega)]
 exact ⟨hk.1, hk.2, by omega, r.c.a.toNat, by omega, by omega, by omega⟩
theorem SlIn.cell (I : SlIn C l j v r) (h : 9 ≤ r.pc) : Cell (lastK r) := by
 have h5 := I.pc
 by_cases h9 : r.pc = 9 ∨ r.pc = 10
 ·obtain ⟨_, b, hb, _, hj, e⟩ := I.at_nat h9
  exact .inl ⟨j, b, hj, hb, e⟩
 ·obtain ⟨_, _, _, a, ha, _, e⟩ := I.pt_nat (by omega)
  exact .inr ⟨a, ha, e⟩
theorem Lw.at_ (L : Lw C ws) {n : Nat} (h : Cell n) : ∃ x, ws[n]? = some x ∧ 0 ≤ x ∧ x ≤ 9223372036854775807 := by
 rcases h with ⟨i, b, hi, hb, rfl⟩ | ⟨a, ha, rfl⟩
 ·exact L.sl i b hi hb
 ·exact L.pt a ha
theorem slW_lw (L : Lw C ws) (I : SlIn C l j v r) : Lw C (slW ws r) := by
 unfold slW
 split
 ·rename_i h
  exact L.set (I.cell (by omega)) (by rw [I.val]; have := hC_bd v I.lt.2; exact ⟨this.1, this.2.1⟩)
 ·exact L
/-- behind a step: done, or on its way -/
theorem sl_in (L : Lw C ws) (I : SlIn C l j v r) : (slR C l ws j v r).done = true ∨ SlIn C l j v (slR C l ws j v r) := by
 have hp := I.pcs
 have fr : ∀ x : Nat, (x = 9 → (C 1).ep ≠ 6) → (C (sC x)).ep = eC x → x ≠ 9 := by
  intro x h9 he e
  subst e
  exact h9 rfl he
 unfold slR
 by_cases h5 : r.pc = 5
 ·rw [if_pos h5]
  unfold freshR
  split
  ·rename_i he
   have := fr j I.j9 he
   exact .inr { I with pcs := .inr (.inl ⟨rfl, by show r.c.op = 8 ∨ r.c.op = 9; omega, by omega, this⟩) }
  ·exact .inl rfl
 rw [if_neg h5]
 by_cases h6 : r.pc = 6
 ·rw [if_pos h6]
  unfold handR
  split
  ·exact .inl rfl
  rename_i h10
  split
  ·exact .inl rfl
  rename_i hB
  have hB2 : 0 ≤ r.c.b ∧ r.c.b ≤ 1 := by
   rcases h : inB r.c.b 0 1 with _ | _
   ·exact absurd h hB
   ·exact of_decide_eq_true h
  split
  ·rename_i h8
   exact .inr { I with pcs := .inr (.inr (.inr (.inl ⟨.inl ⟨rfl, h8⟩, by omega, rfl, hB2.1, hB2.2⟩))) }
  rename_i h8
  have h9 : r.c.op = 9 := by omega
  split
  ·exact .inr { I with pcs := .inr (.inr (.inr (.inl ⟨.inr ⟨rfl, h9⟩, by omega, rfl, hB2.1, hB2.2⟩))) }
  rename_i hv
  have hv12 := I.lt.2
  split
  ·exact .inr { I with pcs := .inr (.inr (.inl ⟨.inl rfl, by omega, .inl ⟨h9, by omega, rfl, hB2.1, hB2.2⟩⟩)) }
  ·exact .inl rfl
 rw [if_neg h6]
 by_cases h7 : r.pc = 7
 ·rw [if_pos h7]
  unfold freshR
  split
  ·rename_i he
   have := fr v I.v9 he
   exact .inr { I with pcs := .inr (.inr (.inl ⟨.inr ⟨rfl, this⟩, by omega, by show r.c.op = 9 ∧ j < 9 ∧ r.at_ = atR j r ∧ 0 ≤ r.c.b ∧ r.c.b ≤ 1 ∨ r.c.op = 11 ∧ 1 ≤ r.c.a ∧ r.c.a ≤ 3; omega⟩)) }
  ·exact .inl rfl
 rw [if_neg h7]
 by_cases h8 : r.pc = 8
 ·rw [if_pos h8]
  unfold valueR
  split
  ·exact .inl rfl
  by_cases ha : above l (sC v) (if r.c.op = 9 then (sC j : Int) else r.c.a) = true
  ·rw [if_pos ha]
   by_cases h9 : r.c.op = 9
   ·rw [if_pos h9]
    exact .inr { I with pcs := .inr (.inr (.inr (.inl ⟨.inr ⟨rfl, h9⟩, by omega, by show r.at_ = atR j r; omega, by show 0 ≤ r.c.b; omega, by show r.c.b ≤ 1; omega⟩))) }
   ·rw [if_neg h9]
    exact .inr { I with pcs := .inr (.inr (.inr (.inr ⟨.inr ⟨rfl, by show r.c.op = 11; omega⟩, by show 1 ≤ r.c.a; omega, by show r.c.a ≤ 3; omega⟩))) }
  ·rw [if_neg ha]; exact .inl rfl
 rw [if_neg h8]
 split
 ·exact .inl rfl
 ·exact .inl rfl
/-- what stays in any case -/
theorem sl_stays (I : SlIn C l j v r) : (slR C l ws j v r).chain = r.chain ∧ (slR C l ws j v r).said = noS ∧ (slR C l ws j v r).list = noS ∧ (slR C l ws j v r).asaid = noS ∧ (slR C l ws j v r).c = r.c := by
 have h1 := I.said; have h2 := I.list; have h3 := I.asaid
 unfold slR freshR handR valueR
 split
 ·split
  ·exact ⟨rfl, h1, h2, h3, rfl⟩
  ·exact ⟨rfl, h1, h2, rfl, rfl⟩
 split
 ·split
  ·exact ⟨rfl, h1, h2, rfl, rfl⟩
  split
  ·exact ⟨rfl, h1, h2, rfl, rfl⟩
  split
  ·exact ⟨rfl, h1, h2, h3, rfl⟩
  split
  ·exact ⟨rfl, h1, h2, h3, rfl⟩
  split
  ·exact ⟨rfl, h1, h2, h3, rfl⟩
  ·exact ⟨rfl, h1, h2, rfl, rfl⟩
 split
 ·split
  ·exact ⟨rfl, h1, h2, h3, rfl⟩
  ·exact ⟨rfl, h1, h2, rfl, rfl⟩
 split
 ·split
  ·exact ⟨rfl, h1, h2, rfl, rfl⟩
  by_cases ha : above l (sC v) (if r.c.op = 9 then (sC j : Int) else r.c.a) = true
  ·rw [if_pos ha]; exact ⟨rfl, h1, h2, h3, rfl⟩
  ·rw [if_neg ha]; exact ⟨rfl, h1, h2, rfl, rfl⟩
 split
 ·exact ⟨rfl, h1, h2, rfl, rfl⟩
 ·exact ⟨rfl, h1, h2, rfl, rfl⟩
end
end Go.Proofs.YtnimaajnlkbdaaaGreat

namespace Go.Proofs.YtnimaajnlkbdaaaGreat
open Go.RowKit
set_option linter.unusedVariables false
set_option linter.unusedSimpArgs false

/-- in just n steps it is done: told c, x; the words are ws' then -/
def Ends (C : Nat → Ctl) (l : List Ent) (j v : Nat) (ws : List Int) : Nat → Rn → Int → Int → List Int → Prop
 | 0, _, _, _, _ => False
 | 1, r, c, x, ws' => SlIn C l j v r ∧ (slR C l ws j v r).done = true ∧ (slR C l ws j v r).point = true ∧ (slR C l ws j v r).code = c ∧ (slR C l ws j v r).an = x ∧ slW ws r = ws'
 | n + 2, r, c, x, ws' => SlIn C l j v r ∧ slW ws r = ws ∧ Ends C l j v ws (n + 1) (slR C l ws j v r) c x ws'

def cd8 (l : List Ent) (j v : Nat) (c : Cal) : Int := if v = 10 then 18 else if above l (sC v) (if c.op = 9 then (sC j : Int) else c.a) = true then 0 else 22
def cd7 (C : Nat → Ctl) (l : List Ent) (j v : Nat) (c : Cal) : Int := if (C (sC v)).ep = eC v then cd8 l j v c else 19
def cd6 (C : Nat → Ctl) (l : List Ent) (j v : Nat) (c : Cal) : Int :=
 if j = 10 then 18 else if inB c.b 0 1 = false then 21 else if c.op = 8 then 0 else if v = 11 then 0 else if reach l (sC v) = true then cd7 C l j v c else 20
def cd5 (C : Nat → Ctl) (l : List Ent) (j v : Nat) (c : Cal) : Int := if (C (sC j)).ep = eC j then cd6 C l j v c else 19
/-- the word that is loaded or stored -/
def wordK (j : Nat) (c : Cal) : Nat := if c.op = 8 ∨ c.op = 9 then ((8 * (kC j : Int) + 16 + 8 * c.b) / 8).toNat else (8 * c.a + 4).toNat
def endX (ws : List Int) (j : Nat) (c : Cal) (code : Int) : Int := if code = 0 ∧ (c.op = 8 ∨ c.op = 10) then ws[wordK j c]?.getD 0 else 0
def endW (ws : List Int) (j v : Nat) (c : Cal) (code : Int) : List Int := if code = 0 ∧ (c.op = 9 ∨ c.op = 11) then ws.set (wordK j c) (hC v) else ws
section
variable {C : Nat → Ctl} {l : List Ent} {ws : List Int} {j v : Nat} {r : Rn}
theorem SlIn.wordK (I : SlIn C l j v r) (h : 9 ≤ r.pc) : lastK r = wordK j r.c := by
 have hp := I.pcs
 have h5 := I.pc
 unfold lastK Go.Proofs.YtnimaajnlkbdaaaGreat.wordK
 by_cases h9 : r.pc = 9 ∨ r.pc = 10
 ·have h2 : r.at_ = atR j r := by omega
  rw [if_pos h9, if_pos (by omega), h2]
  rfl
 ·rw [if_neg h9, if_neg (by omega)]
theorem ends_last (I : SlIn C l j v r) (h : 9 ≤ r.pc) : Ends C l j v ws 1 r 0 (endX ws j r.c 0) (endW ws j v r.c 0) := by
 have hp := I.pcs
 have h5 := I.pc
 have hr : ¬ r.pc = 5 ∧ ¬ r.pc = 6 ∧ ¬ r.pc = 7 ∧ ¬ r.pc = 8 := by omega
 have hk := I.wordK h
 by_cases h9 : r.pc = 9 ∨ r.pc = 11
 ·have e : slR C l ws j v r = toldR r 0 (ws[lastK r]?.getD 0) noS := by
   unfold slR
   rw [if_neg hr.1, if_neg hr.2.1, if_neg hr.2.2.1, if_neg hr.2.2.2, if_pos h9]
  refine ⟨I, by rw [e]; rfl, by rw [e]; rfl, by rw [e]; rfl, ?_, ?_⟩
  ·rw [e]
   unfold endX
   rw [if_pos ⟨rfl, by omega⟩, ← hk]
   rfl
  ·unfold slW endW
   rw [if_neg (by omega), if_neg (by omega)]
 ·have e : slR C l ws j v r = toldR r 0 0 noS := by
   unfold slR
   rw [if_neg hr.1, if_neg hr.2.1, if_neg hr.2.2.1, if_neg hr.2.2.2, if_neg h9]
  refine ⟨I, by rw [e]; rfl, by rw [e]; rfl, by rw [e]; rfl, ?_, ?_⟩
  ·rw [e]
   unfold endX
   rw [if_neg (by omega)]
   rfl
  ·unfold slW endW
   rw [if_pos (by omega), if_pos ⟨rfl, by omega⟩, ← hk, I.val]
/-- it is refused now -/
theorem ends_told (I : SlIn C l j v r) (h : ¬ 9 ≤ r.pc) {x : Rn} {c : Int} (hc : ¬ c = 0) (e : slR C l ws j v r = toldR x c 0 noS) : Ends C l j v ws 1 r c (endX ws j r.c c) (endW ws j v r.c c) := by
 refine ⟨I, by rw [e]; rfl, by rw [e]; rfl, by rw [e]; rfl, ?_, ?_⟩
 ·rw [e]
  unfold endX
  rw [if_neg (fun h => hc h.1)]
  rfl
 ·unfold slW endW
  rw [if_neg (by omega), if_neg (fun h => hc h.1)]
/-- it goes on -/
theorem ends_on (L : Lw C ws) (I : SlIn C l j v r) (h : ¬ 9 ≤ r.pc) {x : Rn} (e : slR C l ws j v r = x) (hd : ¬ x.done = true) {c : Int} {n : Nat}
  (hx : SlIn C l j v x → x.c = r.c → Ends C l j v ws (n + 1) x c (endX ws j x.c c) (endW ws j v x.c c)) : Ends C l j v ws (n + 2) r c (endX ws j r.c c) (endW ws j v r.c c) := by
 have hs := (sl_stays (ws := ws) I).2.2.2.2
 rw [e] at hs
 have hi : SlIn C l j v x := by
  rcases sl_in (ws := ws) L I with h1 | h1
  ·rw [e] at h1; exact absurd h1 hd
  ·rw [e] at h1; exact h1
 have := hx hi hs
 rw [hs] at this
 exact ⟨I, by unfold slW; rw [if_neg (by omega)], by rw [e]; exact this⟩
theorem ends8 (L : Lw C ws) (I : SlIn C l j v r) (h : r.pc = 8) : ∃ n, n + 1 ≤ 2 ∧ Ends C l j v ws (n + 1) r (cd8 l j v r.c) (endX ws j r.c (cd8 l j v r.c)) (endW ws j v r.c (cd8 l j v r.c)) := by
 have hs : slR C l ws j v r = valueR l j v r := by
  unfold slR
  rw [if_neg (show ¬ r.pc = 5 by omega), if_neg (show ¬ r.pc = 6 by omega), if_neg (show ¬ r.pc = 7 by omega), if_pos h]
 unfold cd8
 unfold valueR at hs
 by_cases h10 : v = 10
 ·rw [if_pos h10] at hs ⊢
  exact ⟨0, by omega, ends_told I (by omega) (by decide) hs⟩
 rw [if_neg h10] at hs ⊢
 by_cases ha : above l (sC v) (if r.c.op = 9 then (sC j : Int) else r.c.a) = true
 ·rw [if_pos ha] at hs ⊢
  refine ⟨1, by omega, ends_on L I (by omega) hs (by simp [I.done]) (fun hi hc => ends_last hi ?_)⟩
  show 9 ≤ (if r.c.op = 9 then (10 : Int) else 12)
  split <;> omega
 ·rw [if_neg ha] at hs ⊢
  exact ⟨0, by omega, ends_told I (by omega) (by decide) hs⟩
theorem ends7 (L : Lw C ws) (I : SlIn C l j v r) (h : r.pc = 7) : ∃ n, n + 1 ≤ 3 ∧ Ends C l j v ws (n + 1) r (cd7 C l j v r.c) (endX ws j r.c (cd7 C l j v r.c)) (endW ws j v r.c (cd7 C l j v r.c)) := by
 have hs : slR C l ws j v r = freshR C v 8 r := by
  unfold slR
  rw [if_neg (show ¬ r.pc = 5 by omega), if_neg (show ¬ r.pc = 6 by omega), if_pos h]
 unfold cd7
 unfold freshR at hs
 by_cases he : (C (sC v)).ep = eC v
 ·rw [if_pos he] at hs ⊢
  have hi : SlIn C l j v { r with pc := 8 } := by
   rcases sl_in (ws := ws) L I with h1 | h1
   ·rw [hs] at h1; exact absurd h1 (by simp [I.done])
   ·rw [hs] at h1; exact h1
  obtain ⟨n, hn, hE⟩ := ends8 L hi rfl
  exact ⟨n + 1, by omega, ends_on L I (by omega) hs (by simp [I.done]) (fun _ _ => hE)⟩
 ·rw [if_neg he] at hs ⊢
  exact ⟨0, by omega, ends_told I (by omega) (by decide) hs⟩
theorem ends6 (L : Lw C ws) (I : SlIn C l j v r) (h : r.pc = 6) : ∃ n, n + 1 ≤ 4 ∧ (r.c.op = 8 → cd6 C l j v r.c = 0 → n = 1) ∧ Ends C l j v ws (n + 1) r (cd6 C l j v r.c) (endX ws j r.c (cd6 C l j v r.c)) (endW ws j v r.c (cd6 C l j v r.c)) := by
 have hs : slR C l ws j v r = handR l j v r := by
  unfold slR
  rw [if_neg (show ¬ r.pc = 5 by omega), if_pos h]
 unfold cd6
 unfold handR at hs
 by_cases h10 : j = 10
 ·rw [if_pos h10] at hs ⊢
  exact ⟨0, by omega, fun _ h => by simp at h, ends_told I (by omega) (by decide) hs⟩
 rw [if_neg h10] at hs ⊢
 by_cases hB : inB r.c.b 0 1 = false
 ·rw [if_pos hB] at hs ⊢
  exact ⟨0, by omega, fun _ h => by simp at h, ends_told I (by omega) (by decide) hs⟩
 rw [if_neg hB] at hs ⊢
 by_cases h8 : r.c.op = 8
 ·rw [if_pos h8] at hs ⊢
  exact ⟨1, by omega, fun _ _ => rfl, ends_on L I (by omega) hs (by simp [I.done]) (fun hi hc => ends_last hi (by show (9 : Int) ≤ 9; omega))⟩
 rw [if_neg h8] at hs ⊢
 by_cases hv : v = 11
 ·rw [if_pos hv] at hs ⊢
  exact ⟨1, by omega, fun e => absurd e h8, ends_on L I (by omega) hs (by simp [I.done]) (fun hi hc => ends_last hi (by show (9 : Int) ≤ 10; omega))⟩
 rw [if_neg hv] at hs ⊢
 by_cases hr : reach l (sC v) = true
 ·rw [if_pos hr] at hs ⊢
  have hi : SlIn C l j v { r with at_ := atR j r, pc := 7 } := by
   rcases sl_in (ws := ws) L I with h1 | h1
   ·rw [hs] at h1; exact absurd h1 (by simp [I.done])
   ·rw [hs] at h1; exact h1
  obtain ⟨n, hn, hE⟩ := ends7 L hi rfl
  exact ⟨n + 1, by omega, fun e => absurd e h8, ends_on L I (by omega) hs (by simp [I.done]) (fun _ _ => hE)⟩
 ·rw [if_neg hr] at hs ⊢
  exact ⟨0, by omega, fun e => absurd e h8, ends_told I (by omega) (by decide) hs⟩
theorem ends5 (L : Lw C ws) (I : SlIn C l j v r) (h : r.pc = 5) : ∃ n, n + 1 ≤ 5 ∧ (r.c.op = 8 → cd5 C l j v r.c = 0 → n = 2) ∧ Ends C l j v ws (n + 1) r (cd5 C l j v r.c) (endX ws j r.c (cd5 C l j v r.c)) (endW ws j v r.c (cd5 C l j v r.c)) := by
 have hs : slR C l ws j v r = freshR C j 6 r := by
  unfold slR
  rw [if_pos h]
 unfold cd5
 unfold freshR at hs
 by_cases he : (C (sC j)).ep = eC j
 ·rw [if_pos he] at hs ⊢
  have hi : SlIn C l j v { r with pc := 6 } := by
   rcases sl_in (ws := ws) L I with h1 | h1
   ·rw [hs] at h1; exact absurd h1 (by simp [I.done])
   ·rw [hs] at h1; exact h1
  obtain ⟨n, hn, hx, hE⟩ := ends6 L hi rfl
  exact ⟨n + 1, by omega, fun e1 e2 => by have := hx e1 e2; omega, ends_on L I (by omega) hs (by simp [I.done]) (fun _ _ => hE)⟩
 ·rw [if_neg he] at hs ⊢
  exact ⟨0, by omega, fun _ h => by simp at h, ends_told I (by omega) (by decide) hs⟩
end

/-- the entries of the law's threads -/
def chE16 (m : Nat) : List Ent := ([(1, true), (2, true)] : List Ent).take m
theorem chE16_len {m : Nat} (h : m < 3) : (chE16 m).length = m := by
 obtain rfl | rfl | rfl : m = 0 ∨ m = 1 ∨ m = 2 := by omega
 all_goals rfl
theorem reach16 {m s : Nat} (hm : m < 3) (hs : s < 4) : reach (chE16 m) (s : Int) = decide (s ≤ m) := by
 obtain rfl | rfl | rfl : m = 0 ∨ m = 1 ∨ m = 2 := by omega
 all_goals
  obtain rfl | rfl | rfl | rfl : s = 0 ∨ s = 1 ∨ s = 2 ∨ s = 3 := by omega
  all_goals decide
/-- a call as it begins -/
def cal16k (k : Nat) (a b : Int) : Cal := ⟨8 + (k : Int), 2, 0, 1, a, b, 0⟩
def beg16k (m j v k : Nat) (a b : Int) (ch : Sl) : Rn := rbeginRn 4 (chE16 m) (cal16k k a b) (hC j) (hC v) ch
def chk16 (m j : Nat) : Int := if j = 11 then 18 else if sC j ≤ m then 0 else 20
theorem chk16_ok {m j : Nat} (hm : m < 3) (hj : j < 12) : (checkR 4 (chE16 m) (hC j)).2 = chk16 m j := by
 unfold chk16
 by_cases h : j = 11
 ·rw [if_pos h, h]
  unfold checkR
  rw [hC_none, if_pos (by decide)]
 ·rw [if_neg h]
  have hs := sC_lt j (by omega)
  unfold checkR
  rw [hC_unpack j (by omega)]
  rw [if_neg (fun h => h rfl), if_neg (by show ¬ ((4 : Int) ≤ (sC j : Int)); omega)]
  show (if reach (chE16 m) (sC j : Int) = false then (((0, 0, 0), 20) : Rf × Int) else _).2 = _
  rw [reach16 hm (by omega)]
  by_cases hl : sC j ≤ m
  ·rw [if_pos hl, if_neg (by simp [hl])]
  ·rw [if_neg hl, if_pos (by simp [hl])]
/-- what a call begins with: code and place -/
def begS (m j v k : Nat) (a : Int) : Int × Int :=
 if k ≤ 1 then (if chk16 m j = 0 then (0, 5) else (chk16 m j, 0))
 else if inB a 1 3 = false then (11, 0)
 else if (m : Int) < a then (20, 0)
 else if k = 2 then (0, 11)
 else if v = 11 then (0, 12)
 else if chk16 m v = 0 then (0, 7) else (chk16 m v, 0)
theorem begS_ok {m j v k : Nat} {a b : Int} (hm : m < 3) (hj : j < 12) (hv : v < 12) (hk : k < 4) : beginS 4 (chE16 m) (cal16k k a b) (hC j) (hC v) = begS m j v k a := by
 have h1 := chk16_ok hm hj
 have h2 := chk16_ok hm hv
 have h3 := hC_bd v hv
 have hr : inB a 1 3 = true → reach (chE16 m) a = decide (a ≤ (m : Int)) := fun h => by
  have h := of_decide_eq_true h
  obtain ⟨s, rfl⟩ := Int.eq_ofNat_of_zero_le (show 0 ≤ a by omega)
  rw [reach16 hm (by omega)]
  congr 1
  simp
 have hv0 : hC v = 0 ↔ v = 11 := ⟨h3.2.2, fun e => by rw [e]; decide⟩
 unfold begS
 obtain rfl | rfl | rfl | rfl : k = 0 ∨ k = 1 ∨ k = 2 ∨ k = 3 := by omega
 ·simp [beginS, cal16k, rgOk, h1]
 ·simp [beginS, cal16k, rgOk, h1]
 ·simp only [beginS, cal16k, rgOk]
  cases hB : inB a 1 3 with
  | false => simp [hB]
  | true =>
   have hr := hr hB
   simp [hB, hr]
 ·simp only [beginS, cal16k, rgOk]
  cases hB : inB a 1 3 with
  | false => simp [hB]
  | true =>
   have hr := hr hB
   simp [hB, hr, hv0, h2]
theorem beg16_in {C : Nat → Ctl} {m j v k : Nat} {a b : Int} {ch : Sl} (hm : m < 3) (hj : j < 12) (hv : v < 12) (hk : k < 4) (j9 : j = 9 → (C 1).ep ≠ 6) (v9 : v = 9 → (C 1).ep ≠ 6) (h : (begS m j v k a).1 = 0) : SlIn C (chE16 m) j v (beg16k m j v k a b ch) := by
 have hs := begS_ok (a := a) (b := b) hm hj hv hk
 unfold beg16k rbeginRn
 rw [hs, if_pos h]
 refine ⟨rfl, rfl, ⟨hj, hv⟩, rfl, rfl, rfl, rfl, j9, v9, ?_⟩
 show ((begS m j v k a).2 = 5 ∧ (8 + (k : Int) = 8 ∨ 8 + (k : Int) = 9) ∧ j < 11) ∨ _
 unfold begS at h ⊢
 by_cases k1 : k ≤ 1
 ·rw [if_pos k1] at h ⊢
  by_cases hc : chk16 m j = 0
  ·rw [if_pos hc] at h ⊢
   refine .inl ⟨rfl, by omega, ?_⟩
   rcases Nat.lt_or_ge j 11 with h' | h'
   ·exact h'
   ·have : j = 11 := by omega
    unfold chk16 at hc
    rw [if_pos this] at hc
    exact absurd hc (by decide)
  ·rw [if_neg hc] at h
   exact absurd h hc
 rw [if_neg k1] at h ⊢
 cases hB : inB a 1 3 with
 | false => rw [hB, if_pos rfl] at h; exact absurd h (by decide)
 | true =>
  have hB2 := of_decide_eq_true hB
  rw [hB, if_neg (by decide)] at h
  rw [if_neg (by decide)]
  by_cases ha : (m : Int) < a
  ·rw [if_pos ha] at h; exact absurd h (by decide)
  rw [if_neg ha] at h ⊢
  by_cases k2 : k = 2
  ·rw [if_pos k2] at h ⊢
   exact .inr (.inr (.inr (.inr ⟨.inl ⟨rfl, by show 8 + (k : Int) = 10; omega⟩, hB2⟩)))
  rw [if_neg k2] at h ⊢
  by_cases hv' : v = 11
  ·rw [if_pos hv'] at h ⊢
   exact .inr (.inr (.inr (.inr ⟨.inr ⟨rfl, by show 8 + (k : Int) = 11; omega⟩, hB2⟩)))
  rw [if_neg hv'] at h ⊢
  by_cases hc : chk16 m v = 0
  ·rw [if_pos hc] at h ⊢
   exact .inr (.inr (.inl ⟨.inl rfl, by omega, .inr ⟨by show 8 + (k : Int) = 11; omega, hB2⟩⟩))
  ·rw [if_neg hc] at h
   exact absurd h hc
/-- a call's whole verdict -/
def verd (C : Nat → Ctl) (m j v k : Nat) (a b : Int) : Int :=
 if ¬ (begS m j v k a).1 = 0 then (begS m j v k a).1
 else if k ≤ 1 then cd5 C (chE16 m) j v (cal16k k a b)
 else if k = 2 then 0
 else if v = 11 then 0
 else cd7 C (chE16 m) j v (cal16k k a b)
/-- how many steps at most -/
def bnd16 (k : Nat) : Nat := if k ≤ 1 then 5 else if k = 2 then 1 else 3
theorem beg16_ends {C : Nat → Ctl} {ws : List Int} {m j v k : Nat} {a b : Int} {ch : Sl} (L : Lw C ws) (hm : m < 3) (hj : j < 12) (hv : v < 12) (hk : k < 4) (j9 : j = 9 → (C 1).ep ≠ 6) (v9 : v = 9 → (C 1).ep ≠ 6) (h : (begS m j v k a).1 = 0) :
  ∃ n, n + 1 ≤ bnd16 k ∧ (k = 0 → verd C m j v k a b = 0 → n = 2) ∧ Ends C (chE16 m) j v ws (n + 1) (beg16k m j v k a b ch) (verd C m j v k a b) (endX ws j (cal16k k a b) (verd C m j v k a b)) (endW ws j v (cal16k k a b) (verd C m j v k a b)) := by
 have I := beg16_in (C := C) (b := b) (ch := ch) hm hj hv hk j9 v9 h
 have hs := begS_ok (a := a) (b := b) hm hj hv hk
 have hpc : (beg16k m j v k a b ch).pc = (begS m j v k a).2 := by
  unfold beg16k rbeginRn
  rw [hs, if_pos h]
 have hcl : (beg16k m j v k a b ch).c = cal16k k a b := rfl
 unfold verd
 rw [if_neg (fun e => e h)]
 unfold begS at h hpc
 by_cases k1 : k ≤ 1
 ·rw [if_pos k1] at h hpc ⊢
  by_cases hc : chk16 m j = 0
  ·rw [if_pos hc] at h hpc
   obtain ⟨n, hn, hx, hE⟩ := ends5 (ws := ws) L I hpc
   rw [hcl] at hE hx
   exact ⟨n, by unfold bnd16; rw [if_pos k1]; exact hn, fun e1 e2 => hx (by unfold cal16k; show 8 + (k : Int) = 8; omega) e2, hE⟩
  ·rw [if_neg hc] at h
   exact absurd h hc
 rw [if_neg k1] at h hpc ⊢
 cases hB : inB a 1 3 with
 | false => rw [hB, if_pos rfl] at h; exact absurd h (by decide)
 | true =>
  rw [hB, if_neg (by decide)] at h hpc
  by_cases ha : (m : Int) < a
  ·rw [if_pos ha] at h; exact absurd h (by decide)
  rw [if_neg ha] at h hpc
  by_cases k2 : k = 2
  ·rw [if_pos k2] at h hpc ⊢
   have := ends_last (ws := ws) I (by rw [hpc]; show (9 : Int) ≤ 11; decide)
   rw [hcl] at this
   exact ⟨0, by unfold bnd16; rw [if_neg k1]; split <;> omega, fun e => by omega, this⟩
  rw [if_neg k2] at h hpc ⊢
  by_cases hv' : v = 11
  ·rw [if_pos hv'] at h hpc ⊢
   have := ends_last (ws := ws) I (by rw [hpc]; show (9 : Int) ≤ 12; decide)
   rw [hcl] at this
   exact ⟨0, by unfold bnd16; rw [if_neg k1]; split <;> omega, fun e => by omega, this⟩
  rw [if_neg hv'] at h hpc ⊢
  by_cases hc : chk16 m v = 0
  ·rw [if_pos hc] at h hpc
   obtain ⟨n, hn, hE⟩ := ends7 (ws := ws) L I hpc
   rw [hcl] at hE
   exact ⟨n, by unfold bnd16; rw [if_neg k1, if_neg k2]; exact hn, fun e => by omega, hE⟩
  ·rw [if_neg hc] at h
   exact absurd h hc
/-- a call on its way, i steps from its beginning: N steps in all (none: it was refused at once); c, x: what it is told; wf: the words then -/
def Run16 (C : Nat → Ctl) (l : List Ent) (j v : Nat) (ws : List Int) (c x : Int) (wf : List Int) (N i : Nat) (r : Rn) (wn : List Int) : Prop :=
 (∃ n, i + n + 1 = N ∧ Ends C l j v ws (n + 1) r c x wf ∧ wn = ws) ∨ (i = N ∧ r.code = c ∧ r.an = x ∧ wn = wf ∧ (r.done = true ∧ r.point = true ∧ 0 < N ∨ r.done = false ∧ r.pc = 0 ∧ N = 0))
section
variable {C : Nat → Ctl} {l : List Ent} {j v : Nat} {ws wf wn : List Int} {c x : Int} {N i : Nat} {r : Rn}
theorem Ends.sl {n : Nat} (h : Ends C l j v ws (n + 1) r c x wf) : SlIn C l j v r := by
 cases n with
 | zero => exact h.1
 | succ n => exact h.1
theorem run16_on (h : Run16 C l j v ws c x wf N i r wn) (hi : i < N) : SlIn C l j v r ∧ wn = ws ∧ Run16 C l j v ws c x wf N (i + 1) (slR C l ws j v r) (slW ws r) := by
 rcases h with ⟨n, hn, hE, hw⟩ | ⟨h1, _⟩
 ·refine ⟨hE.sl, hw, ?_⟩
  cases n with
  | zero =>
   obtain ⟨_, e1, e2, e3, e4, e5⟩ := hE
   exact .inr ⟨by omega, e3, e4, e5, .inl ⟨e1, e2, by omega⟩⟩
  | succ n =>
   obtain ⟨_, e1, e2⟩ := hE
   exact .inl ⟨n, by omega, e2, e1⟩
 ·omega
theorem run16_end (h : Run16 C l j v ws c x wf N i r wn) (hi : ¬ i < N) : i = N ∧ r.code = c ∧ r.an = x ∧ wn = wf ∧ (r.done = true ∧ r.point = true ∧ 0 < N ∨ r.done = false ∧ r.pc = 0 ∧ N = 0) := by
 rcases h with ⟨n, hn, _⟩ | h
 ·omega
 ·exact h
end
theorem beg16_run {C : Nat → Ctl} {ws : List Int} {m j v k : Nat} {a b : Int} {ch : Sl} (L : Lw C ws) (hm : m < 3) (hj : j < 12) (hv : v < 12) (hk : k < 4) (j9 : j = 9 → (C 1).ep ≠ 6) (v9 : v = 9 → (C 1).ep ≠ 6) :
  ∃ N, N ≤ bnd16 k ∧ (verd C m j v k a b = 0 → 0 < N) ∧ (k = 0 → verd C m j v k a b = 0 → N = 3) ∧ (N = 0 ↔ ¬ (begS m j v k a).1 = 0) ∧ Run16 C (chE16 m) j v ws (verd C m j v k a b) (endX ws j (cal16k k a b) (verd C m j v k a b)) (endW ws j v (cal16k k a b) (verd C m j v k a b)) N 0 (beg16k m j v k a b ch) ws := by
 by_cases h : (begS m j v k a).1 = 0
 ·obtain ⟨n, hn, h3, hE⟩ := beg16_ends (a := a) (b := b) (ch := ch) L hm hj hv hk j9 v9 h
  exact ⟨n + 1, hn, fun _ => by omega, fun e1 e2 => by have := h3 e1 e2; omega, ⟨fun e => by omega, fun e => absurd h e⟩, .inl ⟨n, by omega, hE, rfl⟩⟩
 ·have hv' : verd C m j v k a b = (begS m j v k a).1 := by unfold verd; rw [if_pos h]
  have hs := begS_ok (a := a) (b := b) hm hj hv hk
  refine ⟨0, by omega, fun e => absurd (hv' ▸ e) h, fun _ e => absurd (hv' ▸ e) h, ⟨fun _ => h, fun _ => rfl⟩, .inr ⟨rfl, ?_, ?_, ?_, .inr ⟨rfl, ?_, rfl⟩⟩⟩
  ·rw [hv']; unfold beg16k rbeginRn; rw [hs]
  ·unfold endX; rw [if_neg (fun e => h (hv' ▸ e.1))]; rfl
  ·unfold endW; rw [if_neg (fun e => h (hv' ▸ e.1))]
  ·unfold beg16k rbeginRn; rw [hs, if_neg h]
end Go.Proofs.YtnimaajnlkbdaaaGreat

namespace Go.Proofs.YtnimaajnlkbdaaaGreat
open Go.RowKit
set_option linter.unusedVariables false
set_option linter.unusedSimpArgs false

section
variable {C : Nat → Ctl} {l : List Ent} {j v : Nat} {ws wf wn : List Int} {c x : Int} {N i : Nat} {r : Rn}
end
theorem sC_ok {j : Nat} (hj : j < 9) : sC j = j / 3 := by unfold sC; rw [if_pos hj]
theorem c16_ep1 : (c16 1).ep ≠ 6 := by decide
theorem chk16_le {m j : Nat} (hj : j < 9) : chk16 m j = if j / 3 ≤ m then 0 else 20 := by
 unfold chk16
 rw [if_neg (show ¬ j = 11 by omega), sC_ok hj]
end Go.Proofs.YtnimaajnlkbdaaaGreat
