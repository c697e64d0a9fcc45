/- An entry more leaves what was above what: the plain law. No program in sight. -/
import Derived.Test.YthfjdgdpghepoaaOrderPlain
namespace Go.Proofs.Ythfjdgdpghepoaa
open Go.RowKit
set_option linter.unusedSectionVars false

section
variable {w : List Ent} (h : Good w) (t : Int) (ht : 0 < t)
include h ht
theorem push_neg (s : Int) (hs : s ≤ 0) : idx (s, true) (w ++ [(t, true)]) = -1 := by
  rcases idx_cases (s, true) (w ++ [(t, true)]) with ⟨e, _⟩ | ⟨k, hk, e, hv, _⟩
  · exact e
  · have hm := List.mem_of_getElem? hv
    simp only [List.mem_append, List.mem_singleton, Prod.mk.injEq] at hm
    rcases hm with hm | ⟨rfl, _⟩
    · have := good_pos h s hm
      omega
    · omega

theorem push_par (b : Int) (hb : b ≤ 0 ∨ 0 ≤ idx (b, true) w) : par (w ++ [(t, true)]) b = par w b ∧ (par w b ≤ 0 ∨ 0 ≤ idx (par w b, true) w) := by
  rcases hb with hb | hb
  · have e1 := push_neg h t ht b hb
    have e2 := good_neg h b hb
    have hp : par w b = -1 := by rw [par, if_pos (by omega)]
    rw [hp, par, if_pos (by omega)]
    exact ⟨rfl, .inl (by omega)⟩
  · have e := idx_app (b, true) w [(t, true)] hb
    obtain ⟨k, hk⟩ := Int.eq_ofNat_of_zero_le hb
    have hkl : k < w.length := by
      rcases idx_cases (b, true) w with ⟨e', _⟩ | ⟨j, hj, e', _⟩ <;> omega
    refine ⟨?_, ?_⟩
    · rw [par, par, e, hk, if_neg (by omega), if_neg (by omega), Int.toNat_natCast, List.take_append_of_le_length (by omega)]
    · rcases good_par h b with ⟨_, _⟩ | ⟨_, hp | hp⟩
      · omega
      · exact .inl (by omega)
      · exact .inr hp.1

theorem push_up (a : Int) (n : Nat) : ∀ b, (b ≤ 0 ∨ 0 ≤ idx (b, true) w) → up (w ++ [(t, true)]) a n b = up w a n b := by
  induction n with
  | zero => intro b _; rfl
  | succ n ih =>
    intro b hb
    obtain ⟨h1, h2⟩ := push_par h t ht b hb
    rw [up_ref, up_ref, h1, ih _ h2]

theorem push_above (a b : Int) (hr : reach w b = true) : above (w ++ [(t, true)]) a b = above w a b := by
  unfold above
  rw [push_up h t ht]
  unfold reach at hr
  simp only [Bool.or_eq_true, beq_iff_eq, decide_eq_true_eq] at hr
  rcases hr with hr | hr
  · exact .inl (by omega)
  · exact .inr hr
end

theorem push_reach (w : List Ent) (t : Int) : reach (w ++ [(t, true)]) t = true := by
  unfold reach
  simp only [Bool.or_eq_true, decide_eq_true_eq]
  exact .inr (idx_last _ _)
theorem push_new (w : List Ent) (t : Int) (hr : reach w t = false) : par (w ++ [(t, true)]) t = area w ∧ above (w ++ [(t, true)]) (area w) t = true := by
  unfold reach at hr
  simp only [Bool.or_eq_false_iff, beq_eq_false_iff_ne, decide_eq_false_iff_not] at hr
  have hi : idx (t, true) (w ++ [(t, true)]) = w.length := by
    refine idx_some _ _ _ (by simp) (fun j hj => ?_)
    rw [List.getElem?_append_left hj]
    rcases idx_cases (t, true) w with ⟨_, hn⟩ | ⟨k, _, e, _⟩
    · intro hv
      exact hn (List.mem_of_getElem? hv)
    · omega
  have hp : par (w ++ [(t, true)]) t = area w := by
    rw [par, hi, if_neg (by omega), Int.toNat_natCast, List.take_left]
  refine ⟨hp, ?_⟩
  unfold above
  rw [up_ref, hp, up_ref]
  simp

end Go.Proofs.Ythfjdgdpghepoaa
