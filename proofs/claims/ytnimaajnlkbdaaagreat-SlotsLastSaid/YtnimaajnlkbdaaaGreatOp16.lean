/- How the arguments of layer 16's laws are opened: calls, arrays of four bytes. -/
import Derived.Test.YtnimaajnlkbdaaaGreatMP
import Derived.Lib.SmallJoins
namespace Go.Proofs.YtnimaajnlkbdaaaGreat
open Go.RowKit Go.ChangeShapes Go.WideShapes
set_option linter.unusedVariables false

structure Use16 where
  op : Int
  who : Int
  h : Int
  v : Int
  b : Int
  a : Int
abbrev useCells (u : Use16) : List Value := [.int .u8 u.op, .int .u8 u.who, .int .u8 u.h, .int .u8 u.v, .int .i64 u.b, .int .i64 u.a]
structure Use16Ok (u : Use16) : Prop where
  op : 0 ≤ u.op ∧ u.op ≤ 255
  who : 0 ≤ u.who ∧ u.who ≤ 255
  h : 0 ≤ u.h ∧ u.h ≤ 255
  v : 0 ≤ u.v ∧ u.v ≤ 255
  b : -9223372036854775808 ≤ u.b ∧ u.b ≤ 9223372036854775807
  a : -9223372036854775808 ≤ u.a ∧ u.a ≤ 9223372036854775807
theorem uses_len (l : List Use16) : (l.flatMap useCells).length = l.length * 6 := flat_length useCells 6 (fun _ => rfl) l
theorem uses_at {w : World} {A : Option Addr} {l : List Use16} (h : Cells w A (l.flatMap useCells)) (h0 : 0 < l.length) : ∃ b off, A = some ⟨b, off, none⟩ ∧ b < w.heap.size ∧
    ∀ k x, l[k]? = some x → ∀ (j : Nat) u, (useCells x)[j]? = some u → w.cell? ⟨b, off + k * 6 + j, none⟩ = some u := by
  obtain ⟨b, off, e, hb, hc⟩ := Cells.at_ h (by rw [uses_len]; omega)
  refine ⟨b, off, e, hb, fun k x hk j u hu => ?_⟩
  have hj : j < 6 := by
    rcases Nat.lt_or_ge j 6 with h | h
    · exact h
    · rw [List.getElem?_eq_none (by simpa using h)] at hu; cases hu
  have h1 := hc (k * 6 + j) u (by rw [flat_get useCells 6 (fun _ => rfl) l k j hj, hk]; exact hu)
  rw [Nat.add_assoc]
  exact h1
theorem wf16_u8 {x : Int} (h : (Lit.int .u8 x).wf = true) : 0 ≤ x ∧ x ≤ 255 := by
  simpa [Lit.wf, IntKind.min, IntKind.max, IntKind.signed, IntKind.bits] using h
theorem wf16_int {x : Int} (h : (Lit.int .i64 x).wf = true) : -9223372036854775808 ≤ x ∧ x ≤ 9223372036854775807 := by
  simpa [Lit.wf, IntKind.min, IntKind.max, IntKind.signed, IntKind.bits] using h
theorem wf16_u64 {x : Int} (h : (Lit.int .u64 x).wf = true) : 0 ≤ x ∧ x ≤ 18446744073709551615 := by
  simpa [Lit.wf, IntKind.min, IntKind.max, IntKind.signed, IntKind.bits] using h
set_option maxRecDepth 100000 in
theorem use_of_trod {H : Type} {enc : TypeId × Value → H} {w : World} {base : Nat} {spare : Nat → Bool} {held : Bool} (n : Nat) (cs : List Value) (y : DataW H × List MemPlace)
    (h : DataW.trod enc Tryz.prog w base spare held n 47 cs = some y) : ∃ c : Use16, cs = useCells c ∧ Use16Ok c := by
  obtain ⟨xs, m, _, _, hl, hxl, hi⟩ := DataW.trod_struct Tryz.underlying47 h
  have hl7 : cs.length = 6 := hl.trans (by kernel_rfl)
  have hx7 : xs.length = 6 := hxl
  have k0 : Tryz.prog.cellsOf 5 = 1 := by kernel_rfl
  have k1 : Tryz.prog.cellsOf 3 = 1 := by kernel_rfl
  match cs, hl7, xs, hx7 with
  | [c0, c1, c2, c3, c4, c5], _, [x0, x1, x2, x3, x4, x5], _ =>
    have h0 : DataW.trod enc Tryz.prog w base spare held m 5 (([c0, c1, c2, c3, c4, c5].drop 0).take (Tryz.prog.cellsOf 5)) = some x0 := hi 0 _ rfl
    have h1 : DataW.trod enc Tryz.prog w base spare held m 5 (([c0, c1, c2, c3, c4, c5].drop 1).take (Tryz.prog.cellsOf 5)) = some x1 := hi 1 _ rfl
    have h2 : DataW.trod enc Tryz.prog w base spare held m 5 (([c0, c1, c2, c3, c4, c5].drop 2).take (Tryz.prog.cellsOf 5)) = some x2 := hi 2 _ rfl
    have h3 : DataW.trod enc Tryz.prog w base spare held m 5 (([c0, c1, c2, c3, c4, c5].drop 3).take (Tryz.prog.cellsOf 5)) = some x3 := hi 3 _ rfl
    have h4 : DataW.trod enc Tryz.prog w base spare held m 3 (([c0, c1, c2, c3, c4, c5].drop 4).take (Tryz.prog.cellsOf 3)) = some x4 := hi 4 _ rfl
    have h5 : DataW.trod enc Tryz.prog w base spare held m 3 (([c0, c1, c2, c3, c4, c5].drop 5).take (Tryz.prog.cellsOf 3)) = some x5 := hi 5 _ rfl
    rw [k0] at h0 h1 h2 h3
    rw [k1] at h4 h5
    obtain ⟨a0, e0, _, w0⟩ := DataW.trod_int Tryz.underlying5 h0
    obtain ⟨a1, e1, _, w1⟩ := DataW.trod_int Tryz.underlying5 h1
    obtain ⟨a2, e2, _, w2⟩ := DataW.trod_int Tryz.underlying5 h2
    obtain ⟨a3, e3, _, w3⟩ := DataW.trod_int Tryz.underlying5 h3
    obtain ⟨a4, e4, _, w4⟩ := DataW.trod_int Tryz.underlying3 h4
    obtain ⟨a5, e5, _, w5⟩ := DataW.trod_int Tryz.underlying3 h5
    simp at e0 e1 e2 e3 e4 e5
    subst e0 e1 e2 e3 e4 e5
    exact ⟨⟨a0, a1, a2, a3, a4, a5⟩, rfl, ⟨wf16_u8 w0, wf16_u8 w1, wf16_u8 w2, wf16_u8 w3, wf16_int w4, wf16_int w5⟩⟩
set_option maxRecDepth 100000 in
theorem open_use16 {H : Type} {enc : TypeId × Value → H} {w : World} {base : Nat} {spare : Nat → Bool} {held : Bool} {r : Reach} {b0 : Nat} {v : Value} {d : DataW H} {p : List MemPlace}
    (hv : Value.okWide Tryz.prog w r b0 47 v) (h : DataW.Trod enc Tryz.prog w base spare held 47 v d p) : ∃ u : Use16, v = .agg (useCells u).toArray ∧ Use16Ok u := by
  obtain ⟨cs, rfl, _⟩ := okWide_struct Tryz.underlying47 hv
  obtain ⟨fuel, hf⟩ := h
  obtain ⟨u, hu, hq⟩ := use_of_trod _ _ _ hf
  refine ⟨u, ?_, hq⟩
  obtain ⟨cl⟩ := cs
  simp only [Value.cells] at hu
  subst hu
  rfl
set_option maxRecDepth 100000 in
theorem open_case16 {H : Type} {enc : TypeId × Value → H} {w : World} {base : Nat} {spare : Nat → Bool} {held : Bool} {r : Reach} {b0 : Nat} {v : Value} {d : DataW H} {p : List MemPlace}
    (hv : Value.okWide Tryz.prog w r b0 25 v) (h : DataW.Trod enc Tryz.prog w base spare held 25 v d p) :
    ∃ (A : Option Addr) (k : Nat) (l : List Use16) (tn : Int), v = .agg #[.slice A l.length k, .int .u64 tn] ∧ (l.length ≤ k ∧ k ≤ maxLen ∧ Cells w A (l.flatMap useCells) ∧ ∀ t ∈ l, Use16Ok t) ∧ (0 ≤ tn ∧ tn ≤ 18446744073709551615) := by
  obtain ⟨cs, rfl, _⟩ := okWide_struct Tryz.underlying25 hv
  obtain ⟨fuel, hf⟩ := h
  obtain ⟨y0, y1, m, _, hl, h0, h1⟩ := Go.ChangeShapes.trod_struct2 Tryz.underlying25 hf
  have k0 : Tryz.prog.cellsOf 22 = 1 := by kernel_rfl
  have k1 : Tryz.prog.cellsOf 23 = 1 := by kernel_rfl
  obtain ⟨cl⟩ := cs
  have hl2 : cl.length = 2 := by
    have : (Value.agg ⟨cl⟩).cells.toList.length = 2 := hl.trans (by kernel_rfl)
    simpa [Value.cells] using this
  rw [k0] at h0
  rw [k1] at h1
  match cl, hl2 with
  | [c0, c1], _ =>
    simp only [Value.cells, List.drop, List.take] at h0 h1
    obtain ⟨tn, e1, _, hw⟩ := DataW.trod_int Tryz.underlying23 h1
    simp at e1
    subst e1
    have hs : ∃ A n' k, c0 = .slice A n' k := by
      rcases DataW.trod_slice Tryz.underlying22 h0 with ⟨q, _⟩ | ⟨a, len, cap, _, _, _, _, q, _⟩
      · simp at q; exact ⟨none, 0, 0, q⟩
      · simp at q; exact ⟨some a, len, cap, q⟩
    obtain ⟨A, n', k, rfl⟩ := hs
    obtain ⟨l, rfl, a1, a2, a3, a4⟩ := rows_of (size := 6) useCells Use16Ok (by decide) (fun _ => rfl) Tryz.underlying22 (by kernel_rfl) (use_of_trod (enc := enc) (w := w)) h0
    exact ⟨A, k, l, tn, rfl, ⟨a1, a2, a3, a4⟩, wf16_u64 hw⟩
theorem open_arr4 {P : Program} {H : Type} {enc : TypeId × Value → H} {w : World} {base : Nat} {spare : Nat → Bool} {held : Bool} {r : Reach} {b0 : Nat} {t e : TypeId} {k : IntKind} {v : Value} {d : DataW H} {p : List MemPlace} (ht : P.underlying t = some (.array 4 e)) (he : P.underlying e = some (.int k)) (hC : P.cellsOf t = 4) (hE : P.cellsOf e = 1)
    (hv : Value.okWide P w r b0 t v) (h : DataW.Trod enc P w base spare held t v d p) : ∃ a b c x : Int, v = .agg #[.int k a, .int k b, .int k c, .int k x] ∧ (Lit.int k a).wf = true ∧ (Lit.int k b).wf = true ∧ (Lit.int k c).wf = true ∧ (Lit.int k x).wf = true := by
  obtain ⟨l, rfl, hl, hw⟩ := open_arr ht he hC hE hv h
  match l, hl with
  | [a, b, c, x], _ => exact ⟨a, b, c, x, rfl, hw a (by simp), hw b (by simp), hw c (by simp), hw x (by simp)⟩
end Go.Proofs.YtnimaajnlkbdaaaGreat
