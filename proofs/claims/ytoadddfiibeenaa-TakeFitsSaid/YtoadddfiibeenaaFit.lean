/- Layer 15, fits: what scope 1 holds while its objects are allocated one by one. -/
import Derived.Test.YtoadddfiibeenaaShare
import Derived.Test.YtoadddfiibeenaaHd
namespace Go.Proofs.Ytoadddfiibeenaa
open Go.RowKit
set_option linter.unusedVariables false
set_option linter.unusedSimpArgs false

/-- scope 1 while objects are allocated: what is behind its top is 0 -/
structure FitW (ep u : Int) (ws : List Int) (tp : Int) : Prop where
  blk : BlkOk 2 ws 1 (upC ep) 192 u tp
  len : ws.length = 64
  zero : ∀ j : Nat, 192 + tp ≤ 8 * (j : Int) → j < 64 → ws[j]? = some 0
theorem fit_start {size ep : Int} (H : BothOk 1 64 size ep) : FitW ep (up8 size) (bothWs 64 size ep) 0 := by
  refine ⟨both_blk1 H, by rw [bothWs_len]; rfl, fun j h1 h2 => ?_⟩
  rw [bothWs_get H j (by omega), if_neg (by omega), if_neg (by omega), if_neg (by omega), if_neg (by omega), if_neg (by omega), if_neg (by omega)]
section
variable {ep u tp : Int} {ws : List Int} {r : Rn} {ch : Sl}
/-- what four steps make of it: refused, and nothing is changed; or its head, and slots that are 0 -/
theorem fit_end (F : FitW ep u ws tp) (R : TkRun 1 (upC ep) 192 u ch r) (h5 : r.pc = 5) {W4 : List Int} (hW : stepsW ws 1 (upC ep) 192 u tp r 4 = W4) {n : Int} (hn : wordsN r.c.a r.c.b = n) :
    (u < tp + 8 * n ∧ W4 = ws) ∨
    (tp + 8 * n ≤ u ∧ FitW ep u W4 (tp + 8 * n) ∧ ∃ K : Nat, 192 + tp = ((K * 8 : Nat) : Int) ∧ 8 ≤ K ∧ (K : Int) + n ≤ 64 ∧ W4[K]? = some (head1 n r.c.a r.c.c) ∧ W4[K + 1]? = some (head2 1 ep) ∧ ∀ j : Nat, 2 ≤ j → (j : Int) < n → W4[K + j]? = some 0) := by
  have hp := wordsN_pos R
  have b1 := F.blk.tp0; have b2 := F.blk.tp8; have b3 := F.blk.hi; have b4 := F.len
  have hs := steps_words (ws := ws) (k := 1) (c := upC ep) (ba := 192) (bu := u) (tp := tp) r
  rw [hW] at hs
  have hB := take_blk F.blk (tkRun_at R h5 (show 3 < 4 by decide))
  have hT : takeW ws 1 tp (tkAt (upC ep) 192 u r 3) = W4 := by rw [← hW]; rfl
  have hq : takeT tp (tkAt (upC ep) 192 u r 3) = if tp + 8 * wordsN r.c.a r.c.b ≤ u then tp + 8 * wordsN r.c.a r.c.b else tp := by
    unfold takeT
    by_cases h : tp + 8 * wordsN r.c.a r.c.b ≤ u
    · rw [if_pos ⟨rfl, h⟩, if_pos h]; rfl
    · rw [if_neg (fun e => h e.2), if_neg h]
  rw [hT, hq] at hB
  rw [hn] at hs hp hB
  by_cases hf : tp + 8 * n ≤ u
  · rw [if_pos hf] at hs hB
    refine .inr ⟨hf, ?_⟩
    obtain ⟨K, hK⟩ : ∃ K : Nat, 192 + tp = ((K * 8 : Nat) : Int) := ⟨((192 + tp) / 8).toNat, by omega⟩
    have hK2 : ((192 + tp) / 8).toNat = K := by omega
    rw [hK2] at hs
    have hz : ∀ j : Nat, K + 2 ≤ j → j < 64 → W4[j]? = some 0 := by
      intro j h1 h2
      rw [hs, List.getElem?_set, if_neg (by omega), List.getElem?_set, if_neg (by omega), List.getElem?_set, if_neg (by omega)]
      exact F.zero j (by omega) h2
    have hl : W4.length = 64 := by rw [hs]; simp [b4]
    refine ⟨⟨hB, hl, fun j h1 h2 => hz j (by omega) h2⟩, K, hK, by omega, by omega, ?_, ?_, fun j h1 h2 => hz (K + j) (by omega) (by omega)⟩
    · rw [hs, List.getElem?_set, if_neg (by omega), List.getElem?_set, if_pos rfl, if_pos (by simp; omega)]
    · rw [hs, List.getElem?_set, if_pos rfl, if_pos (by simp; omega), R.area]
      rfl
  · rw [if_neg hf] at hs
    exact .inl ⟨by omega, hs⟩
end
end Go.Proofs.Ytoadddfiibeenaa
