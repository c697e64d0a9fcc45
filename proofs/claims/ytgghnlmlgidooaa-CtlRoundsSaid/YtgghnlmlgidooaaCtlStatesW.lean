/- The law CtlStates: the cases joined. -/
import Derived.Test.YtgghnlmlgidooaaCtlStates
namespace Go.Proofs.Ytgghnlmlgidooaa
open Go.RowKit

theorem right_live {n p e : Int} (h1 : 1 ≤ n) (h2 : n ≤ 7) (h3 : -1 ≤ p) (h4 : p ≤ 7) (h5 : 0 ≤ e) (h6 : e ≤ 16777215) : Right ⟨2, n, p, e⟩ := ⟨h5, h6, Or.inr (Or.inl ⟨rfl, h1, h2, h3, h4⟩)⟩
theorem right_drain {p e : Int} (h3 : -1 ≤ p) (h4 : p ≤ 7) (h5 : 0 ≤ e) (h6 : e ≤ 16777215) : Right ⟨3, 0, p, e⟩ := ⟨h5, h6, Or.inr (Or.inr ⟨rfl, rfl, h3, h4⟩)⟩
theorem right_idle {e : Int} (h5 : 0 ≤ e) (h6 : e ≤ 16777215) : Right ⟨1, 0, -1, e⟩ := ⟨h5, h6, Or.inl ⟨Or.inr rfl, rfl, rfl⟩⟩

theorem ctlStates_walk (s n p e m : Int) (w : World) (_ : (Lit.int .i64 s).wf = true) (_ : (Lit.int .i64 n).wf = true) (_ : (Lit.int .i64 p).wf = true) (_ : (Lit.int .i64 e).wf = true) (hm : (Lit.int .u8 m).wf = true) :
    Calls Try.prog 7 #[.agg #[.int .i64 s, .int .i64 n, .int .i64 p, .int .i64 e], .int .u8 m] w fun e w' => e = .returned (.bool true) ∧ Below w.heap.size w w' := by
  obtain ⟨m0, m1⟩ := wf_u8 hm
  by_cases hr : ¬ Right ⟨s, n, p, e⟩
  · exact ctlStates_none s n p e m w m0 m1 (Lib.hid (by simp [enter, hr, noCtl])) (Lib.hid (by simp [leave, ofState, hr, noCtl])) (Lib.hid (by simp [openC, ofState, hr, noCtl])) (Lib.hid (by simp [hold, ofState, hr, noCtl])) (Lib.hid (rightB_f hr))
  replace hr := Decidable.of_not_not hr
  have f0 : 0 ≤ m % 8 := by omega
  have f1 : m % 8 ≤ 7 := by omega
  have hR := rightB_t hr
  have hS : s = 0 ∨ s = 1 ∨ s = 2 ∨ s = 3 := by
    have := right_bd hr
    simp only at this
    omega
  rcases hS with rfl | rfl | rfl | rfl
  · exact ctlStates_free n p e m w m0 m1 (Lib.hid (by simp [enter, hr, noCtl, f0, f1])) (Lib.hid (by simp [leave, ofState, hr, noCtl])) (Lib.hid (by simp [openC, ofState, hr, noCtl])) (Lib.hid (by simp [hold, ofState, hr, noCtl])) (Lib.hid hR)
  · obtain ⟨_, _, n0, n7, p0, p7, e0, e1⟩ := right_bd hr
    simp only at n0 n7 p0 p7 e0 e1
    exact ctlStates_idle n p e m 2 1 (m % 8) e w m0 m1 (Lib.hid (by simp [enter, hr, f0, f1])) (Lib.hid (by simp [leave, ofState, hr, noCtl])) (Lib.hid (by simp [openC, ofState, hr, noCtl])) (Lib.hid (by simp [hold, ofState, hr, noCtl])) (Lib.hid hR) (Lib.hid (rightB_t (right_live (by omega) (by omega) (by omega) (by omega) e0 e1)))
  · obtain ⟨_, _, n0, n7, p0, p7, e0, e1⟩ := right_bd hr
    simp only at n0 n7 p0 p7 e0 e1
    have n1 : 1 ≤ n := by
      obtain ⟨_, _, h⟩ := hr
      simp only at h
      rcases h with ⟨h, _⟩ | ⟨_, h, _⟩ | ⟨h, _⟩
      · omega
      · exact h
      · omega
    have hb : Right ⟨if n = 1 then 3 else 2, n - 1, p, e⟩ := by
      split
      · rw [show n - 1 = 0 by omega]
        exact right_drain p0 p7 e0 e1
      · exact right_live (by omega) (by omega) p0 p7 e0 e1
    have HL := Lib.hid (show leave ⟨2, n, p, e⟩ = (⟨if n = 1 then 3 else 2, n - 1, p, e⟩, 0) by simp [leave, ofState, hr])
    have HO := Lib.hid (show openC ⟨2, n, p, e⟩ = (⟨0, 0, 0, 0⟩, 11) by simp [openC, ofState, hr, noCtl])
    have HK := Lib.hid (show hold ⟨2, n, p, e⟩ = (⟨0, 0, 0, 0⟩, 11) by simp [hold, ofState, hr, noCtl])
    by_cases hp : p = m % 8
    · subst hp
      by_cases hn : n = 7
      · subst hn
        exact ctlStates_full _ _ e m _ _ _ _ 16 w m0 m1 (Lib.hid (by simp [enter, hr, noCtl, f0, f1])) HL HO HK (Lib.hid hR) (Lib.hid (rightB_t hb)) rfl rfl
      · exact ctlStates_live n _ e m 2 (n + 1) (m % 8) e _ _ _ _ w m0 m1 (Lib.hid (by simp [enter, hr, f0, f1, hn])) HL HO HK (Lib.hid hR) (Lib.hid (rightB_t (right_live (by omega) (by omega) p0 p7 e0 e1))) (Lib.hid (rightB_t hb))
    · exact ctlStates_full n p e m _ _ _ _ 15 w m0 m1 (Lib.hid (by simp [enter, hr, noCtl, f0, f1, hp])) HL HO HK (Lib.hid hR) (Lib.hid (rightB_t hb)) rfl rfl
  · obtain ⟨_, _, n0, n7, p0, p7, e0, e1⟩ := right_bd hr
    simp only at n0 n7 p0 p7 e0 e1
    exact ctlStates_drain n p e m 1 0 (-1) ((e + 1) % 16777216) 2 1 p e w m0 m1 (Lib.hid (by simp [enter, hr, noCtl, f0, f1])) (Lib.hid (by simp [leave, ofState, hr, noCtl])) (Lib.hid (by simp [openC, ofState, hr])) (Lib.hid (by simp [hold, ofState, hr])) (Lib.hid hR) (Lib.hid (rightB_t (right_idle (by omega) (by omega)))) (Lib.hid (rightB_t (right_live (by omega) (by omega) p0 p7 e0 e1)))

end Go.Proofs.Ytgghnlmlgidooaa
