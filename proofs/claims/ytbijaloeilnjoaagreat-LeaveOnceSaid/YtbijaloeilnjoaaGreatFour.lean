/- The four steps of an allocation, in plain terms. (Printed by gen_four.py.) -/
import Derived.Test.YtbijaloeilnjoaaGreatTP
import Derived.Test.YtbijaloeilnjoaaGreatRTake
namespace Go.Proofs.YtbijaloeilnjoaaGreat
open Go.RowKit
set_option linter.unusedVariables false
set_option linter.unusedSimpArgs false

/-- and behind so many steps -/
def tkAt (c : Ctl) (ba bu : Int) (r : Rn) : Nat → Rn
 | 0 => r
 | 1 => { r with next := c.ep, pc := 2 }
 | 2 => { r with next := c.ep, at_ := ba, pc := 3 }
 | _ => { r with next := c.ep, at_ := ba, word := bu, pc := 4 }
def stepsR (c : Ctl) (ba bu tp : Int) (r : Rn) (j : Nat) : Rn := if j = 4 then takeR c ba bu tp (tkAt c ba bu r 3) else tkAt c ba bu r j
def stepsW (ws : List Int) (k : Nat) (c : Ctl) (ba bu tp : Int) (r : Rn) (j : Nat) : List Int := if j = 4 then takeW ws k tp (tkAt c ba bu r 3) else ws
section
variable {s : Int} {ws : List Int} {k : Nat} {c : Ctl} {ba bu tp : Int} {r : Rn} {ch : Sl}
theorem tkRun_at (R : TkRun k c ba bu ch r) (h5 : r.pc = 5) {j : Nat} (hj : j < 4) : TkRun k c ba bu ch (tkAt c ba bu r j) := by
 obtain rfl | rfl | rfl | rfl : j = 0 ∨ j = 1 ∨ j = 2 ∨ j = 3 := by omega
 ·exact R
 ·exact { R with pcs := .inr (.inl rfl), nx := fun _ => rfl, at4 := fun e => (by rcases e with e | e <;> cases e), wd := fun e => (by cases e) }
 ·exact { R with pcs := .inr (.inr (.inl rfl)), nx := fun _ => rfl, at4 := fun _ => rfl, wd := fun e => (by cases e) }
 ·exact { R with pcs := .inr (.inr (.inr rfl)), nx := fun _ => rfl, at4 := fun _ => rfl, wd := fun _ => rfl }
theorem steps_next (R : TkRun k c ba bu ch r) (h5 : r.pc = 5) {j : Nat} (hj : j < 4) : takeR c ba bu tp (stepsR c ba bu tp r j) = stepsR c ba bu tp r (j + 1) ∧ takeW (stepsW ws k c ba bu tp r j) k tp (stepsR c ba bu tp r j) = stepsW ws k c ba bu tp r (j + 1) ∧ stepsW ws k c ba bu tp r j = ws ∧ TkRun k c ba bu ch (stepsR c ba bu tp r j) := by
 have hT := tkRun_at R h5 hj
 obtain rfl | rfl | rfl | rfl : j = 0 ∨ j = 1 ∨ j = 2 ∨ j = 3 := by omega
 ·refine ⟨?_, ?_, rfl, hT⟩
  ·unfold stepsR; rw [if_neg (by decide), if_neg (by decide)]; unfold takeR; rw [if_pos (by exact h5)]; rfl
  ·unfold stepsW stepsR; rw [if_neg (by decide), if_neg (by decide), if_neg (by decide)]; exact takeW_same (by show r.pc ≠ 4; omega)
 ·refine ⟨rfl, ?_, rfl, hT⟩
  unfold stepsW stepsR; rw [if_neg (by decide), if_neg (by decide), if_neg (by decide)]; exact takeW_same (by show (2 : Int) ≠ 4; decide)
 ·refine ⟨rfl, ?_, rfl, hT⟩
  unfold stepsW stepsR; rw [if_neg (by decide), if_neg (by decide), if_neg (by decide)]; exact takeW_same (by show (3 : Int) ≠ 4; decide)
 ·exact ⟨rfl, rfl, rfl, hT⟩
/-- the call at its end -/
structure TkEnd (c : Ctl) (ba bu tp : Int) (r : Rn) (e : Rn) : Prop where
 done : e.done = true
 point : e.point = true
 code : e.code = if tp + 8 * wordsN r.c.a r.c.b ≤ bu then 0 else 17
 an : e.an = if tp + 8 * wordsN r.c.a r.c.b ≤ bu then hdl r.area c.ep ((ba + tp) / 8) else 0
theorem steps_end (r : Rn) : TkEnd c ba bu tp r (stepsR c ba bu tp r 4) := by
 unfold stepsR
 rw [if_pos rfl]
 unfold takeR
 have h4 : (tkAt c ba bu r 3).pc = 4 := rfl
 rw [if_neg (by rw [h4]; decide), if_neg (by rw [h4]; decide), if_neg (by rw [h4]; decide)]
 have hw : (tkAt c ba bu r 3).word = bu := rfl
 have hc : (tkAt c ba bu r 3).c = r.c := rfl
 rw [hw, hc]
 by_cases h : tp + 8 * wordsN r.c.a r.c.b ≤ bu
 ·rw [if_pos h]; exact ⟨rfl, rfl, (if_pos h).symm, (if_pos h).symm⟩
 ·rw [if_neg h]; exact ⟨rfl, rfl, (if_neg h).symm, (if_neg h).symm⟩
theorem steps_words (r : Rn) : stepsW ws k c ba bu tp r 4 = if tp + 8 * wordsN r.c.a r.c.b ≤ bu then ((ws.set (8 * k + 3) (tp + 8 * wordsN r.c.a r.c.b)).set ((ba + tp) / 8).toNat (head1 (wordsN r.c.a r.c.b) r.c.a r.c.c)).set (((ba + tp) / 8).toNat + 1) (head2 r.area c.ep) else ws := by
 unfold stepsW
 rw [if_pos rfl]
 unfold takeW
 have h4 : (tkAt c ba bu r 3).pc = 4 := rfl
 have hw : (tkAt c ba bu r 3).word = bu := rfl
 have hc : (tkAt c ba bu r 3).c = r.c := rfl
 have ha : (tkAt c ba bu r 3).at_ = ba := rfl
 have hr : (tkAt c ba bu r 3).area = r.area := rfl
 have hn : (tkAt c ba bu r 3).next = c.ep := rfl
 rw [hw, hc, ha, hr, hn]
 by_cases h : tp + 8 * wordsN r.c.a r.c.b ≤ bu
 ·rw [if_pos ⟨h4, h⟩, if_pos h]
 ·rw [if_neg (fun e => h e.2), if_neg h]
end

theorem rsteps16_any (X q d k : Nat) (s t i h : Int) (ws : List Int) (c : Ctl) (ba bu tp : Int) (ch : Sl) (r : Rn) (j : Nat) (w : World) (hB : BlkOk s ws k c ba bu tp) (hR : TkRun k c ba bu ch r) (h5 : r.pc = 5) (hj : j < 4) (hX : RAll w X q d s t i h (stepsW ws k c ba bu tp r j)) :
  Calls Tryz.prog 36 #[.pointer (some ⟨X, 0, none⟩), (stepsR c ba bu tp r j).v] w fun e w' => e = .returned (stepsR c ba bu tp r (j + 1)).v ∧ RAll w' X q d s t i h (stepsW ws k c ba bu tp r (j + 1)) ∧ Keep [d] w w' := by
 obtain ⟨h1, h2, h3, h4⟩ := steps_next (ws := ws) (tp := tp) hR h5 hj
 rw [h3] at hX
 rw [← h1, ← h2, h3]
 exact rtakeStep_any X q d k s t i h ws c ba bu tp _ w hX (tkIn_of hB h4)
end Go.Proofs.YtbijaloeilnjoaaGreat
