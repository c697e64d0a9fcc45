/- The law CtlEnters: the cases joined. -/
import Derived.Test.YtgghnlmlgidooaaCtlEnters
namespace Go.Proofs.Ytgghnlmlgidooaa
open Go.RowKit

theorem ctlEnters_walk (s n p e m : Int) (w : World) (_ : (Lit.int .i64 s).wf = true) (_ : (Lit.int .i64 n).wf = true) (_ : (Lit.int .i64 p).wf = true) (_ : (Lit.int .i64 e).wf = true) (hm : (Lit.int .u8 m).wf = true) :
    Calls Try.prog 6 #[.agg #[.int .i64 s, .int .i64 n, .int .i64 p, .int .i64 e], .int .u8 m] w fun e w' => e = .returned (.bool true) ∧ Below w.heap.size w w' := by
  obtain ⟨m0, m1⟩ := wf_u8 hm
  obtain ⟨xs, xn, xp, xe, HX⟩ : ∃ a b c d, Hid (fit ⟨s, n, p, e⟩ = ⟨a, b, c, d⟩) := ⟨_, _, _, _, rfl⟩
  have hr : Right ⟨xs, xn, xp, xe⟩ := by rw [← HX.out]; exact fit_right _
  have f0 : 0 ≤ m % 8 := by omega
  have f1 : m % 8 ≤ 7 := by omega
  obtain ⟨_, _, n0, n7, p0, p7, e0, e1⟩ := right_bd hr
  simp only at n0 n7 p0 p7 e0 e1
  have h3 := hr.2.2
  simp only at h3
  rcases h3 with ⟨rfl | rfl, rfl, rfl⟩ | ⟨rfl, h1, _⟩ | ⟨rfl, rfl, _⟩
  · exact ctlEnters_free s n p e m _ _ _ w m0 m1 HX (Lib.hid (by simp [enter, hr, noCtl, f0, f1]))
  · have hy : Right ⟨2, 1, m % 8, xe⟩ := right_live (by omega) (by omega) (by omega) (by omega) e0 e1
    have hz : Right ⟨3, 0, m % 8, xe⟩ := right_drain (by omega) (by omega) e0 e1
    exact ctlEnters_idle s n p e m _ w m0 m1 HX (Lib.hid (by simp [enter, hr, f0, f1])) (Lib.hid (by simp [leave, ofState, hy])) (Lib.hid (rightB_t hy)) (Lib.hid (rightB_t hz)) (Lib.hid (by simp [openC, ofState, hz])) (Lib.hid (by simp [hold, ofState, hz])) (Lib.hid (by simp [openC, ofState, hy, noCtl])) (Lib.hid (by simp [enter, hz, noCtl, f0, f1])) e0 e1
  · by_cases hp : xp = m % 8
    · subst hp
      by_cases hn : xn = 7
      · subst hn
        exact ctlEnters_full s n p e m _ _ w m0 m1 HX (Lib.hid (by simp [enter, hr, noCtl, f0, f1])) (by simp)
      · have hy : Right ⟨2, xn + 1, m % 8, xe⟩ := right_live (by omega) (by omega) (by omega) (by omega) e0 e1
        exact ctlEnters_live s n p e m _ _ w m0 m1 HX (Lib.hid (by simp [enter, hr, f0, f1, hn])) (Lib.hid (by simp [leave, ofState, hy, show ¬ xn + 1 = 1 by omega])) (Lib.hid (rightB_t hy)) (Lib.hid (rightB_t hr)) (by omega) (by omega)
    · exact ctlEnters_other s n p e m _ _ _ w m0 m1 HX (Lib.hid (by simp [enter, hr, noCtl, f0, f1, hp])) (by simpa using hp)
  · exact ctlEnters_drain s n p e m _ _ _ w m0 m1 HX (Lib.hid (by simp [enter, hr, noCtl, f0, f1]))

end Go.Proofs.Ytgghnlmlgidooaa
