/- How a plan that is handed in is opened. -/
import Derived.Test.YtcicpfhbpcdjcaaScLaw
import Derived.Lib.SmallJoins
namespace Go.Proofs.Ytcicpfhbpcdjcaa
open Go.RowKit Go.ChangeShapes Go.WideShapes

set_option maxRecDepth 100000 in
theorem open_plan {H : Type} {enc : TypeId × Value → H} {w : World} {base : Nat} {spare : Nat → Bool} {held : Bool} {r : Reach} {b0 : Nat} {v : Value} {d : DataW H} {p : List MemPlace}
    (hv : Value.okWide Try.prog w r b0 23 v) (h : DataW.Trod enc Try.prog w base spare held 23 v d p) :
    ∃ (s n q e : Int), v = .agg #[.int .i64 s, .int .i64 n, .int .i64 q, .int .i64 e] ∧ (Lit.int .i64 s).wf = true ∧ (Lit.int .i64 n).wf = true ∧ (Lit.int .i64 q).wf = true ∧ (Lit.int .i64 e).wf = true := by
  obtain ⟨v0, v1, v2, v3, y0, y1, y2, y3, m, rfl, _, _, h0, h1, h2, h3⟩ := Go.Joins.open_agg4 Try.underlying23 (by kernel_rfl) (by kernel_rfl) hv h
  obtain ⟨a, ha, _, wa⟩ := DataW.trod_int Try.underlying3 h0
  obtain ⟨b, hb, _, wb⟩ := DataW.trod_int Try.underlying3 h1
  obtain ⟨c, hc, _, wc⟩ := DataW.trod_int Try.underlying3 h2
  obtain ⟨e, he, _, we⟩ := DataW.trod_int Try.underlying3 h3
  simp at ha hb hc he
  subst ha; subst hb; subst hc; subst he
  exact ⟨a, b, c, e, rfl, wa, wb, wc, we⟩

end Go.Proofs.Ytcicpfhbpcdjcaa
