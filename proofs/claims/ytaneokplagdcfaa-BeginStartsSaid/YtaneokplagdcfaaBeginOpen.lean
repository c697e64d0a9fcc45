/- How the arguments of layer 13's laws are opened: four registers, and a case (entries, a call, a code and a number). -/
import Derived.Test.YtaneokplagdcfaaOpen
import Derived.Test.YtaneokplagdcfaaChainE
import Derived.Test.YtaneokplagdcfaaRun
import Derived.Lib.SmallJoins
namespace Go.Proofs.Ytaneokplagdcfaa
open Go.RowKit Go.ChangeShapes Go.WideShapes Go.Deep
set_option linter.unusedVariables false
set_option linter.unusedSimpArgs false

set_option maxRecDepth 100000 in
theorem open_plan {H : Type} {enc : TypeId × Value → H} {w : World} {base : Nat} {spare : Nat → Bool} {held : Bool} {r : Reach} {b0 : Nat} {v : Value} {d : DataW H} {p : List MemPlace}
    (hv : Value.okWide Try.prog w r b0 23 v) (h : DataW.Trod enc Try.prog w base spare held 23 v d p) :
    ∃ (s n q e : Int), v = .agg #[.int .i64 s, .int .i64 n, .int .i64 q, .int .i64 e] ∧ (Lit.int .i64 s).wf = true ∧ (Lit.int .i64 n).wf = true ∧ (Lit.int .i64 q).wf = true ∧ (Lit.int .i64 e).wf = true := by
  obtain ⟨v0, v1, v2, v3, y0, y1, y2, y3, m, rfl, _, _, h0, h1, h2, h3⟩ := Go.Joins.open_agg4 Try.underlying23 (by kernel_rfl) (by kernel_rfl) hv h
  obtain ⟨a, ha, _, wa⟩ := DataW.trod_int Try.underlying3 h0
  obtain ⟨b, hb, _, wb⟩ := DataW.trod_int Try.underlying3 h1
  obtain ⟨c, hc, _, wc⟩ := DataW.trod_int Try.underlying3 h2
  obtain ⟨e, he, _, we⟩ := DataW.trod_int Try.underlying3 h3
  simp at ha hb hc he
  subst ha; subst hb; subst hc; subst he
  exact ⟨a, b, c, e, rfl, wa, wb, wc, we⟩

set_option maxRecDepth 100000 in
theorem open_regs {H : Type} {enc : TypeId × Value → H} {w : World} {base : Nat} {spare : Nat → Bool} {held : Bool} {r : Reach} {b0 : Nat} {v : Value} {d : DataW H} {p : List MemPlace}
    (hv : Value.okWide Try.prog w r b0 25 v) (h : DataW.Trod enc Try.prog w base spare held 25 v d p) :
    ∃ (a b c e : Int), v = .agg #[.int .u64 a, .int .u64 b, .int .u64 c, .int .u64 e] ∧ (Lit.int .u64 a).wf = true ∧ (Lit.int .u64 b).wf = true ∧ (Lit.int .u64 c).wf = true ∧ (Lit.int .u64 e).wf = true := by
  obtain ⟨l, rfl, hl, hw⟩ := open_arr Try.underlying25 Try.underlying24 (by kernel_rfl) (by kernel_rfl) hv h
  match l, hl with
  | [a, b, c, e], _ => exact ⟨a, b, c, e, rfl, hw a (by simp), hw b (by simp), hw c (by simp), hw e (by simp)⟩

set_option maxRecDepth 100000 in
theorem call_of_trod {H : Type} {enc : TypeId × Value → H} {w : World} {base : Nat} {spare : Nat → Bool} {held : Bool} (n : Nat) (cs : List Value) (y : DataW H × List MemPlace)
    (h : DataW.trod enc Try.prog w base spare held n 28 cs = some y) : ∃ c : Cal, cs = [.int .u8 c.op, .int .u8 c.r, .int .u8 c.h, .int .u8 c.v, .int .i64 c.a, .int .i64 c.b, .int .i64 c.c] ∧ CalOk c := by
  obtain ⟨xs, m, _, _, hl, hxl, hi⟩ := DataW.trod_struct Try.underlying28 h
  have hl7 : cs.length = 7 := hl.trans (by kernel_rfl)
  have hx7 : xs.length = 7 := hxl
  have k0 : Try.prog.cellsOf 5 = 1 := by kernel_rfl
  have k1 : Try.prog.cellsOf 3 = 1 := by kernel_rfl
  match cs, hl7, xs, hx7 with
  | [c0, c1, c2, c3, c4, c5, c6], _, [x0, x1, x2, x3, x4, x5, x6], _ =>
    have h0 : DataW.trod enc Try.prog w base spare held m 5 (([c0, c1, c2, c3, c4, c5, c6].drop 0).take (Try.prog.cellsOf 5)) = some x0 := hi 0 _ rfl
    have h1 : DataW.trod enc Try.prog w base spare held m 5 (([c0, c1, c2, c3, c4, c5, c6].drop 1).take (Try.prog.cellsOf 5)) = some x1 := hi 1 _ rfl
    have h2 : DataW.trod enc Try.prog w base spare held m 5 (([c0, c1, c2, c3, c4, c5, c6].drop 2).take (Try.prog.cellsOf 5)) = some x2 := hi 2 _ rfl
    have h3 : DataW.trod enc Try.prog w base spare held m 5 (([c0, c1, c2, c3, c4, c5, c6].drop 3).take (Try.prog.cellsOf 5)) = some x3 := hi 3 _ rfl
    have h4 : DataW.trod enc Try.prog w base spare held m 3 (([c0, c1, c2, c3, c4, c5, c6].drop 4).take (Try.prog.cellsOf 3)) = some x4 := hi 4 _ rfl
    have h5 : DataW.trod enc Try.prog w base spare held m 3 (([c0, c1, c2, c3, c4, c5, c6].drop 5).take (Try.prog.cellsOf 3)) = some x5 := hi 5 _ rfl
    have h6 : DataW.trod enc Try.prog w base spare held m 3 (([c0, c1, c2, c3, c4, c5, c6].drop 6).take (Try.prog.cellsOf 3)) = some x6 := hi 6 _ rfl
    rw [k0] at h0 h1 h2 h3
    rw [k1] at h4 h5 h6
    obtain ⟨a0, e0, _, w0⟩ := DataW.trod_int Try.underlying5 h0
    obtain ⟨a1, e1, _, w1⟩ := DataW.trod_int Try.underlying5 h1
    obtain ⟨a2, e2, _, w2⟩ := DataW.trod_int Try.underlying5 h2
    obtain ⟨a3, e3, _, w3⟩ := DataW.trod_int Try.underlying5 h3
    obtain ⟨a4, e4, _, w4⟩ := DataW.trod_int Try.underlying3 h4
    obtain ⟨a5, e5, _, w5⟩ := DataW.trod_int Try.underlying3 h5
    obtain ⟨a6, e6, _, w6⟩ := DataW.trod_int Try.underlying3 h6
    simp at e0 e1 e2 e3 e4 e5 e6
    subst e0 e1 e2 e3 e4 e5 e6
    exact ⟨⟨a0, a1, a2, a3, a4, a5, a6⟩, rfl, ⟨wf_u8 w0, wf_u8 w1, wf_u8 w2, wf_u8 w3, wf_int w4, wf_int w5, wf_int w6⟩⟩

set_option maxRecDepth 100000 in
theorem open_case13 {H : Type} {enc : TypeId × Value → H} {w : World} {base : Nat} {spare : Nat → Bool} {held : Bool} {r : Reach} {b0 : Nat} {v : Value} {d : DataW H} {p : List MemPlace}
    (hv : Value.okWide Try.prog w r b0 31 v) (h : DataW.Trod enc Try.prog w base spare held 31 v d p) :
    ∃ (A : Option Addr) (k : Nat) (l : List Ent) (c : Cal) (co n : Int), v = .agg #[.slice A l.length k, .int .u8 c.op, .int .u8 c.r, .int .u8 c.h, .int .u8 c.v, .int .i64 c.a, .int .i64 c.b, .int .i64 c.c, .int .i64 co, .int .i64 n] ∧
      (l.length ≤ k ∧ k ≤ maxLen ∧ Ents w A l) ∧ CalOk c := by
  obtain ⟨cs, rfl, _⟩ := okWide_struct Try.underlying31 hv
  obtain ⟨fuel, hf⟩ := h
  obtain ⟨y0, y1, y2, y3, m, _, hl, h0, h1, h2, h3⟩ := Go.Joins.trod_struct4 Try.underlying31 hf
  have k0 : Try.prog.cellsOf 26 = 1 := by kernel_rfl
  have k1 : Try.prog.cellsOf 28 = 7 := by kernel_rfl
  have k2 : Try.prog.cellsOf 29 = 1 := by kernel_rfl
  have k3 : Try.prog.cellsOf 3 = 1 := by kernel_rfl
  obtain ⟨cl⟩ := cs
  have hl10 : cl.length = 10 := by
    have : (Value.agg ⟨cl⟩).cells.toList.length = 10 := hl.trans (by kernel_rfl)
    simpa [Value.cells] using this
  rw [k0] at h0
  rw [k1] at h1
  rw [k2] at h2
  rw [k3] at h3
  match cl, hl10 with
  | [c0, c1, c2, c3, c4, c5, c6, c7, c8, c9], _ =>
    simp only [Value.cells, List.drop, List.take] at h0 h1 h2 h3
    obtain ⟨c, hc, hcal⟩ := call_of_trod _ _ _ h1
    obtain ⟨co, e2, _, _⟩ := DataW.trod_int Try.underlying29 h2
    obtain ⟨n, e3, _, _⟩ := DataW.trod_int Try.underlying3 h3
    simp at hc e2 e3
    obtain ⟨r1, r2, r3, r4, r5, r6, r7⟩ := hc
    subst r1 r2 r3 r4 r5 r6 r7 e2 e3
    have hs : ∃ A n' k, c0 = .slice A n' k := by
      rcases DataW.trod_slice Try.underlying26 h0 with ⟨q, _⟩ | ⟨a, len, cap, _, _, _, _, q, _⟩
      · simp at q; exact ⟨none, 0, 0, q⟩
      · simp at q; exact ⟨some a, len, cap, q⟩
    obtain ⟨A, n', k, rfl⟩ := hs
    obtain ⟨l, rfl, a1, a2, a3, _⟩ := rows_of (size := 2) entCells EntOk (by decide) (fun _ => rfl) Try.underlying26 (by kernel_rfl) (ent_of_trod (enc := enc) (w := w)) h0
    exact ⟨A, k, l, c, co, n, rfl, ⟨a1, a2, a3⟩, hcal⟩

end Go.Proofs.Ytaneokplagdcfaa
