/- Layer 15, shares: which words are told; allocations in one scope on their way; what an allocation ends in. -/
import Derived.Test.YtoadddfiibeenaaArr2
namespace Go.Proofs.Ytoadddfiibeenaa
open Go.RowKit
set_option linter.unusedVariables false
set_option linter.unusedSimpArgs false

/-- which words are told: those below n -/
def heldA (n : Nat) : Array Value := ((List.range 64).map fun j => Value.bool (decide (j < n))).toArray
theorem held_size (n : Nat) : (heldA n).size = 64 := by unfold heldA; simp
theorem held_get (n : Nat) {j : Nat} (hj : j < 64) : (heldA n)[j]? = some (.bool (decide (j < n))) := by
  unfold heldA
  rw [List.getElem?_toArray, List.getElem?_map, List.getElem?_range hj]
  rfl
theorem held_cell {w : World} {g e : Nat} {t : TypeId} (h : w.heap[g]? = some (.cells (heldA e) t (0, 0))) (he : e < 64) : w.cell? ⟨g, e, none⟩ = some (.bool false) := by
  rw [row_cell h, held_get e he]
  simp
theorem held_set {e : Nat} (he : e < 64) : (heldA e).setIfInBounds e (.bool true) = heldA (e + 1) := by
  apply Array.ext_getElem?
  intro i
  by_cases hi : i < 64
  · rw [held_get _ hi]
    by_cases e1 : e = i
    · subst e1
      rw [Array.getElem?_setIfInBounds_self_of_lt (by rw [held_size]; exact he)]
      simp
    · rw [Array.getElem?_setIfInBounds_ne e1, held_get _ hi]
      congr 2
      exact decide_eq_decide.2 (by omega)
  · rw [Array.getElem?_eq_none (by simp [held_size]; omega), Array.getElem?_eq_none (by rw [held_size]; omega)]
theorem held_one (n : Nat) : (heldA n).all (·.oneCell') = true := by
  rw [Array.all_eq_true_iff_forall_mem]
  intro v hv
  unfold heldA at hv
  rw [List.mem_toArray] at hv
  obtain ⟨j, _, rfl⟩ := List.mem_map.1 hv
  rfl
set_option maxRecDepth 100000 in
theorem builtB64 : Try.prog.built 77 [] = some (heldA 0) := by kernel_rfl
set_option maxRecDepth 100000 in
theorem allocB64 (w : World) : (Instr.alloc 77 true (.tuple #[])).run Try.prog w = .ok (.pointer (some ⟨w.heap.size, 0, none⟩)) (w.alloc (.cells (heldA 0) 77)) := by kernel_rfl
theorem infoB64 : (Try.prog.info? 77).map (·.size) = some 64 := by kernel_rfl

/-- a run: done, or an allocation on its way -/
def RunS (ep u : Int) (w : World) (F : List Nat) (r : Rn) : Prop := r.done = true ∨ ∃ ch : Sl, TkRun 1 (upC ep) 136 u ch r
section
variable {ep u : Int} {w w' : World} {F S : List Nat} {r : Rn} {n : Nat} {l : List Rn}
def AllS (ep u : Int) (w : World) (F : List Nat) (n : Nat) (l : List Rn) : Prop := l.length = n ∧ ∀ r ∈ l, RunS ep u w F r
theorem AllS.below (h : AllS ep u w F n l) (hb : Below w.heap.size w w') : AllS ep u w' F n l := h
theorem AllS.kept (h : AllS ep u w F n l) (k : Keep S w w') (hs : ∀ i ∈ S, i ∈ F) : AllS ep u w' F n l := h
theorem AllS.set (h : AllS ep u w F n l) (k : Nat) (hr : RunS ep u w F r) : AllS ep u w F n (l.set k r) := by
  refine ⟨by simpa using h.1, fun x hx => ?_⟩
  rcases List.mem_or_eq_of_mem_set hx with h1 | h1
  · exact h.2 x h1
  · rw [h1]; exact hr
end
section
variable {s : Int} {ws : List Int} {ep ba bu tp : Int} {r : Rn} {ch : Sl}
/-- what an allocation of scope 1 ends in -/
theorem share_end (B : BlkOk s ws 1 (upC ep) ba bu tp) (R : TkRun 1 (upC ep) ba bu ch r) :
    ((takeR (upC ep) ba bu tp r).done = false → takeT tp r = tp) ∧
    ((takeR (upC ep) ba bu tp r).done = true → ∃ n : Int, wordsN r.c.a r.c.b = n ∧ 2 ≤ n ∧ n ≤ 72 ∧
      ((bu < tp + 8 * n ∧ (takeR (upC ep) ba bu tp r).code = 17 ∧ takeT tp r = tp) ∨
       (tp + 8 * n ≤ bu ∧ (takeR (upC ep) ba bu tp r).code = 0 ∧ (takeR (upC ep) ba bu tp r).an = hdl 1 ep ((ba + tp) / 8) ∧ takeT tp r = tp + 8 * n))) := by
  have hn := wordsN_pos R
  have hd := R.done
  have ha := R.area
  rcases take_run (tp := tp) R with ⟨h1, h2, h4⟩ | ⟨h1, h4⟩
  · refine ⟨fun h => (by rw [h1] at h; cases h), fun _ => ⟨_, rfl, hn.1, hn.2, ?_⟩⟩
    have hw := R.wd h4
    have ht := R.at4 (.inr h4)
    have hx := R.nx (by omega)
    unfold takeR takeT
    rw [if_neg (by omega), if_neg (by omega), if_neg (by omega), hw, ht, hx, ha]
    by_cases hf : tp + 8 * wordsN r.c.a r.c.b ≤ bu
    · rw [if_pos hf, if_pos ⟨h4, hf⟩]
      exact .inr ⟨hf, rfl, rfl, rfl⟩
    · rw [if_neg hf, if_neg (fun h => hf h.2)]
      exact .inl ⟨by omega, rfl, rfl⟩
  · refine ⟨fun _ => ?_, fun h => (by rw [h1.done] at h; cases h)⟩
    unfold takeT
    rw [if_neg (fun h => h4 h.1)]
theorem share_hdl (B : BlkOk s ws 1 (upC ep) 136 bu tp) (h : tp + 16 ≤ bu) (e0 : 0 ≤ ep) (e1 : ep ≤ 65535) :
    unpackR (hdl 1 ep ((136 + tp) / 8)) = ((1, ep, 136 + tp), 0) ∧ 0 ≤ hdl 1 ep ((136 + tp) / 8) ∧ hdl 1 ep ((136 + tp) / 8) ≤ 9223372036854775807 := by
  have h1 := B.hi; have h2 := B.small; have h3 := B.tp0; have h4 := B.tp8
  obtain ⟨q, hq⟩ : ∃ q, q = (136 + tp) / 8 := ⟨_, rfl⟩
  have q0 : 1 ≤ q ∧ q ≤ 8191 ∧ 8 * q = 136 + tp := by omega
  rw [← hq]
  unfold hdl
  have a1 : (q + 16777216 * 1 + 4294967296 * ep) / 16777216 % 256 = 1 := by omega
  have a2 : (q + 16777216 * 1 + 4294967296 * ep) / 4294967296 = ep := by omega
  have a3 : (q + 16777216 * 1 + 4294967296 * ep) % 16777216 = q := by omega
  refine ⟨?_, by omega, by omega⟩
  unfold unpackR
  rw [if_pos (show refOk _ by unfold refOk; rw [a1, a2, a3]; omega)]
  unfold rfOf
  rw [a1, a2, a3, q0.2.2]
end
theorem runpackR_as {h sc ep at_ c : Int} (hU : unpackR h = ((sc, ep, at_), c)) (h0 : 0 ≤ h) (h1 : h ≤ 18446744073709551615) (w : World) :
    Calls Try.prog 21 #[.int .u64 h] w fun r w' => r = .returned (.tuple #[.agg #[.int .i64 sc, .int .i64 ep, .int .i64 at_], .int .i64 c]) ∧ Below w.heap.size w w' := by
  have h9 := runpackR_any h w h0 h1
  rw [hU] at h9
  exact h9
end Go.Proofs.Ytoadddfiibeenaa
