/- How the arguments of layer 14's laws are opened: a plan, things that are done. -/
import Derived.Test.YthedndejlfkknaaFLaw
import Derived.Lib.SmallJoins
namespace Go.Proofs.Ythedndejlfkknaa
open Go.RowKit Go.ChangeShapes Go.WideShapes

set_option maxRecDepth 100000 in
theorem open_plan {H : Type} {enc : TypeId × Value → H} {w : World} {base : Nat} {spare : Nat → Bool} {held : Bool} {r : Reach} {b0 : Nat} {v : Value} {d : DataW H} {p : List MemPlace}
    (hv : Value.okWide Try.prog w r b0 23 v) (h : DataW.Trod enc Try.prog w base spare held 23 v d p) :
    ∃ (s n q e : Int), v = .agg #[.int .i64 s, .int .i64 n, .int .i64 q, .int .i64 e] ∧ (Lit.int .i64 s).wf = true ∧ (Lit.int .i64 n).wf = true ∧ (Lit.int .i64 q).wf = true ∧ (Lit.int .i64 e).wf = true := by
  obtain ⟨v0, v1, v2, v3, y0, y1, y2, y3, m, rfl, _, _, h0, h1, h2, h3⟩ := Go.Joins.open_agg4 Try.underlying23 (by kernel_rfl) (by kernel_rfl) hv h
  obtain ⟨a, ha, _, wa⟩ := DataW.trod_int Try.underlying3 h0
  obtain ⟨b, hb, _, wb⟩ := DataW.trod_int Try.underlying3 h1
  obtain ⟨c, hc, _, wc⟩ := DataW.trod_int Try.underlying3 h2
  obtain ⟨e, he, _, we⟩ := DataW.trod_int Try.underlying3 h3
  simp at ha hb hc he
  subst ha; subst hb; subst hc; subst he
  exact ⟨a, b, c, e, rfl, wa, wb, wc, we⟩

abbrev FOp := Bool × Int
def fopCells (o : FOp) : List Value := [.bool o.1, .int .i64 o.2]
def FOpOk (o : FOp) : Prop := -9223372036854775808 ≤ o.2 ∧ o.2 ≤ 9223372036854775807
theorem fops_len (l : List FOp) : (l.flatMap fopCells).length = l.length * 2 := flat_length fopCells 2 (fun _ => rfl) l
theorem fops_at {w : World} {A : Option Addr} {l : List FOp} (h : Cells w A (l.flatMap fopCells)) (h0 : 0 < l.length) : ∃ b off, A = some ⟨b, off, none⟩ ∧ b < w.heap.size ∧
    ∀ k x, l[k]? = some x → w.cell? ⟨b, off + k * 2, none⟩ = some (.bool x.1) ∧ w.cell? ⟨b, off + k * 2 + 1, none⟩ = some (.int .i64 x.2) := by
  obtain ⟨b, off, e, hb, hc⟩ := Cells.at_ h (by rw [fops_len]; omega)
  refine ⟨b, off, e, hb, fun k x hk => ?_⟩
  have h1 := hc (k * 2 + 0) (.bool x.1) (by rw [flat_get fopCells 2 (fun _ => rfl) l k 0 (by omega), hk]; rfl)
  have h2 := hc (k * 2 + 1) (.int .i64 x.2) (by rw [flat_get fopCells 2 (fun _ => rfl) l k 1 (by omega), hk]; rfl)
  exact ⟨by simpa using h1, by rw [Nat.add_assoc]; exact h2⟩
set_option maxRecDepth 100000 in
theorem fop_of_trod {H : Type} {enc : TypeId × Value → H} {w : World} {base : Nat} {spare : Nat → Bool} {held : Bool} (n : Nat) (cs : List Value) (y : DataW H × List MemPlace)
    (h : DataW.trod enc Try.prog w base spare held n 45 cs = some y) : ∃ a, cs = fopCells a ∧ FOpOk a := by
  obtain ⟨y0, y1, m, _, hl, h0, h1⟩ := Go.ChangeShapes.trod_struct2 Try.underlying45 h
  have hl2 : cs.length = 2 := hl.trans (by kernel_rfl)
  match cs, hl2 with
  | [c0, c1], _ =>
    have k0 : Try.prog.cellsOf 4 = 1 := by kernel_rfl
    have k1 : Try.prog.cellsOf 3 = 1 := by kernel_rfl
    rw [k0] at h0
    rw [k1] at h1
    obtain ⟨x, hx, _⟩ := DataW.trod_bool Try.underlying4 h0
    obtain ⟨s, hs, _, hw⟩ := DataW.trod_int Try.underlying3 h1
    simp at hs hx
    subst hs; subst hx
    exact ⟨(x, s), rfl, wf_int hw⟩

end Go.Proofs.Ythedndejlfkknaa
