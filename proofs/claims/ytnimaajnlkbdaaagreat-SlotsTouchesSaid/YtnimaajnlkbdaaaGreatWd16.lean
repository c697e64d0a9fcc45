/- Layer 16: the words of an arena, as the laws read them; a scope one or more epochs on. -/
import Derived.Test.YtnimaajnlkbdaaaGreatMP
import Derived.Test.YtnimaajnlkbdaaaGreatWords
import Derived.Test.YtnimaajnlkbdaaaGreatTwo
namespace Go.Proofs.YtnimaajnlkbdaaaGreat
open Go.RowKit
set_option linter.unusedVariables false
set_option linter.unusedSimpArgs false

theorem wordsL_any (p b : Nat) (ws : List Int) (w : World) (h : Arn w p b ws) (h0 : 0 < ws.length) :
    Calls Tryz.prog 19 #[.pointer (some ⟨p, 0, none⟩)] w fun r w' => ∃ b1 o1 c1, r = .returned (.slice (some ⟨b1, o1, none⟩) ws.length c1) ∧ (∀ (n : Nat) x, ws[n]? = some x → w'.cell? ⟨b1, o1 + n, none⟩ = some (.int .u64 x)) ∧ w.heap.size ≤ b1 ∧ b1 < w'.heap.size ∧ Below w.heap.size w w' := by
  refine (words_any p b ws w h).mono ?_
  rintro r w' ⟨v, rfl, A, c, rfl, hc, hcs, hn, hb⟩
  obtain ⟨b1, o1, rfl, h1⟩ := hcs (by rw [wd_len]; omega)
  have h2 : ∀ (n : Nat) x, ws[n]? = some x → w'.cell? ⟨b1, o1 + n, none⟩ = some (.int .u64 x) := fun n x hx => h1 n _ (by simp [hx])
  obtain ⟨x, hx⟩ : ∃ x, ws[0]? = some x := ⟨_, List.getElem?_eq_getElem h0⟩
  exact ⟨b1, o1, c, rfl, h2, hn _ rfl, lt_of_cell (h2 0 x hx), hb⟩
/-- a scope some epochs on -/
def onC (s : Nat) (e : Int) (k : Nat) : Ctl := if k = s then { c16 s with ep := (c16 s).ep + e } else c16 k
theorem on_right {s : Nat} {e : Int} (hs : 1 ≤ s ∧ s ≤ 2) (he : 1 ≤ e ∧ e ≤ 256) : Right { c16 s with ep := (c16 s).ep + e } := by
  have h1 : c16 s = ⟨2, 1, if s = 2 then 1 else 0, 5 * s⟩ := by unfold c16; rw [if_neg (by omega)]
  rw [h1]
  refine ⟨?_, ?_, .inr (.inl ⟨rfl, show (1 : Int) ≤ 1 by decide, show (1 : Int) ≤ 7 by decide, ?_, ?_⟩)⟩
  · show (0 : Int) ≤ 5 * (s : Int) + e; omega
  · show 5 * (s : Int) + e ≤ 16777215; omega
  · show (-1 : Int) ≤ (if s = 2 then 1 else 0); split <;> decide
  · show (if s = 2 then (1 : Int) else 0) ≤ 7; split <;> decide
theorem on_lw {ws : List Int} {s : Nat} {e : Int} (L : Lw c16 ws) (hs : 1 ≤ s ∧ s ≤ 2) (he : 1 ≤ e ∧ e ≤ 256) : Lw (onC s e) (ws.set (8 * s) (word { c16 s with ep := (c16 s).ep + e })) := by
  have hl := L.len
  have get : ∀ k (y : Int), (ws.set (8 * s) y)[k]? = if 8 * s = k then some y else ws[k]? := fun k y => by
    rw [List.getElem?_set]
    split
    · rename_i e; subst e; rw [if_pos (by omega)]
    · rfl
  refine ⟨by simpa using hl, fun k hk => ?_, fun k hk => ?_, fun i hi => ?_, fun i hi => ?_, fun i b hi hb => ?_, fun a ha => ?_⟩
  · unfold onC
    split
    · exact on_right hs he
    · exact L.right k hk
  · rw [get]
    unfold onC
    by_cases h : k = s
    · rw [if_pos (by omega), if_pos h]
    · rw [if_neg (by omega), if_neg h]; exact L.ctl k hk
  · rw [get, if_neg (by unfold oK; omega)]; exact L.h1 i hi
  · rw [get, if_neg (by unfold oK; omega)]; exact L.h2 i hi
  · rw [get, if_neg (by unfold oK; omega)]; exact L.sl i b hi hb
  · rw [get, if_neg (by omega)]; exact L.pt a ha
theorem on_stale {s x : Nat} {e : Int} (hx : x < 9) (h : x / 3 = s) (he : 1 ≤ e) : ¬ (onC s e (sC x)).ep = eC x := by
  have h1 := c16_fresh x hx
  have h2 := sC_ok hx
  rw [h2, h] at h1
  unfold onC
  rw [if_pos (by omega)]
  show ¬ (c16 s).ep + e = eC x
  omega
theorem on_fresh {s x : Nat} {e : Int} (hx : x < 9) (h : ¬ x / 3 = s) : (onC s e (sC x)).ep = eC x := by
  have h2 := sC_ok hx
  unfold onC
  rw [if_neg (by omega)]
  exact c16_fresh x hx
theorem begS_not {m j v k : Nat} {a : Int} : (begS m j v k a).1 ≠ 19 := by
  have hc : ∀ x, chk16 m x ≠ 19 := fun x => by unfold chk16; split <;> (try split) <;> decide
  unfold begS
  split
  · split
    · decide
    · exact hc j
  split
  · decide
  split
  · decide
  split
  · decide
  split
  · decide
  split
  · decide
  · exact hc v
/-- a call that meets a stale object -/
structure StaleOk (C : Nat → Ctl) (k j v : Nat) (a b : Int) : Prop where
  code : verd C 2 j v k a b = 19
  lt : j < 9 ∧ v < 9 ∧ k < 4
  a : -9223372036854775808 ≤ a ∧ a ≤ 9223372036854775807
theorem stale_at {C : Nat → Ctl} {j v k : Nat} {a b : Int} (hk : k ≤ 1) (hj : j < 9) (h : ¬ (C (sC j)).ep = eC j) : verd C 2 j v k a b = 19 := by
  have e : begS 2 j v k a = (0, 5) := by
    unfold begS
    rw [if_pos hk, chk16_le hj, if_pos (show j / 3 ≤ 2 by omega)]; rfl
  unfold verd
  rw [e, if_neg (show ¬ ¬ ((0, 5) : Int × Int).1 = 0 from fun e => e rfl), if_pos hk]
  unfold cd5
  rw [if_neg h]
theorem stale_val {C : Nat → Ctl} {j v : Nat} {a : Int} (hj : j < 9) (hv : v < 9) (h1 : (C (sC j)).ep = eC j) (h : ¬ (C (sC v)).ep = eC v) : verd C 2 j v 1 a 0 = 19 := by
  have e : begS 2 j v 1 a = (0, 5) := by
    unfold begS
    rw [if_pos (show 1 ≤ 1 from Nat.le_refl 1), chk16_le hj, if_pos (show j / 3 ≤ 2 by omega)]; rfl
  unfold verd
  rw [e, if_neg (show ¬ ¬ ((0, 5) : Int × Int).1 = 0 from fun e => e rfl), if_pos (show 1 ≤ 1 from Nat.le_refl 1)]
  unfold cd5 cd6
  rw [if_pos h1, if_neg (show ¬ j = 10 by omega), if_neg (show ¬ inB (cal16k 1 a 0).b 0 1 = false by show ¬ inB (0 : Int) 0 1 = false; decide), if_neg (show ¬ (cal16k 1 a 0).op = 8 by show ¬ ((8 : Int) + 1 = 8); decide), if_neg (show ¬ v = 11 by omega), sC_ok hv, reach16 (by decide) (by omega), if_pos (by simp; omega)]
  unfold cd7
  rw [if_neg h]
theorem stale_gate {C : Nat → Ctl} {v : Nat} {a b : Int} (hv : v < 9) (ha : 1 ≤ a ∧ a ≤ 2) (h : ¬ (C (sC v)).ep = eC v) : verd C 2 0 v 3 a b = 19 := by
  have hB : inB a 1 3 = true := decide_eq_true (by omega)
  have e : begS 2 0 v 3 a = (0, 7) := by
    unfold begS
    rw [if_neg (show ¬ 3 ≤ 1 by decide), hB, if_neg (by decide), if_neg (by omega), if_neg (show ¬ 3 = 2 by decide), if_neg (show ¬ v = 11 by omega), chk16_le hv, if_pos (show v / 3 ≤ 2 by omega)]; rfl
  unfold verd
  rw [e, if_neg (show ¬ ¬ ((0, 7) : Int × Int).1 = 0 from fun e => e rfl), if_neg (show ¬ 3 ≤ 1 by decide), if_neg (show ¬ 3 = 2 by decide), if_neg (show ¬ v = 11 by omega)]
  unfold cd7
  rw [if_neg h]
end Go.Proofs.YtnimaajnlkbdaaaGreat
