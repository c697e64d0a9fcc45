/- How the arguments of layer 17's laws are opened: three things that a control word may tell, turns, thirty bytes. -/
import Derived.Test.YtconieenkeajiaaCtlG
namespace Go.Proofs.Ytconieenkeajiaa
open Go.RowKit Go.ChangeShapes Go.WideShapes Go.Deep
set_option linter.unusedVariables false
set_option linter.unusedSimpArgs false

/-- a turn: whose, which scope, from where, what becomes of a scope -/
structure Tn where
  who : Int
  sc : Int
  fr : Int
  c : Ctl
def tnCells (t : Tn) : List Value := [.int .u8 t.who, .int .u8 t.sc, .int .u8 t.fr, .int .i64 t.c.st, .int .i64 t.c.n, .int .i64 t.c.p, .int .i64 t.c.ep]
structure TnOk (t : Tn) : Prop where
  who : 0 ≤ t.who ∧ t.who ≤ 255
  sc : 0 ≤ t.sc ∧ t.sc ≤ 255
  fr : 0 ≤ t.fr ∧ t.fr ≤ 255
theorem tns_at {w : World} {A : Option Addr} {l : List Tn} (h : Cells w A (l.flatMap tnCells)) (h0 : 0 < l.length) : ∃ b off, A = some ⟨b, off, none⟩ ∧ b < w.heap.size ∧
    ∀ k x, l[k]? = some x → w.cell? ⟨b, off + k * 7, none⟩ = some (.int .u8 x.who) ∧ w.cell? ⟨b, off + k * 7 + 1, none⟩ = some (.int .u8 x.sc) ∧ w.cell? ⟨b, off + k * 7 + 2, none⟩ = some (.int .u8 x.fr) ∧ w.cell? ⟨b, off + k * 7 + 3, none⟩ = some (.int .i64 x.c.st) ∧ w.cell? ⟨b, off + k * 7 + 4, none⟩ = some (.int .i64 x.c.n) ∧ w.cell? ⟨b, off + k * 7 + 5, none⟩ = some (.int .i64 x.c.p) ∧ w.cell? ⟨b, off + k * 7 + 6, none⟩ = some (.int .i64 x.c.ep) := by
  obtain ⟨b, off, e, hb, hc⟩ := Cells.at_ h (by rw [flat_length tnCells 7 (fun _ => rfl)]; omega)
  refine ⟨b, off, e, hb, fun k x hk => ?_⟩
  have hh : ∀ j v, j < 7 → (tnCells x)[j]? = some v → w.cell? ⟨b, off + (k * 7 + j), none⟩ = some v := fun j v hj hv => hc (k * 7 + j) v (by rw [flat_get tnCells 7 (fun _ => rfl) l k j hj, hk]; exact hv)
  exact ⟨by simpa using hh 0 _ (by omega) rfl, by rw [Nat.add_assoc]; exact hh 1 _ (by omega) rfl, by rw [Nat.add_assoc]; exact hh 2 _ (by omega) rfl, by rw [Nat.add_assoc]; exact hh 3 _ (by omega) rfl, by rw [Nat.add_assoc]; exact hh 4 _ (by omega) rfl, by rw [Nat.add_assoc]; exact hh 5 _ (by omega) rfl, by rw [Nat.add_assoc]; exact hh 6 _ (by omega) rfl⟩

section
variable {H : Type} {enc : TypeId × Value → H} {w : World} {base : Nat} {spare : Nat → Bool} {held : Bool}
set_option maxRecDepth 100000 in
theorem ctl_of_trod (n : Nat) (cs : List Value) (y : DataW H × List MemPlace) (h : DataW.trod enc Try.prog w base spare held n 23 cs = some y) : ∃ c : Ctl, cs = c.cells := by
  obtain ⟨y0, y1, y2, y3, m, _, hl, h0, h1, h2, h3⟩ := Go.Joins.trod_struct4 Try.underlying23 h
  have k1 : Try.prog.cellsOf 3 = 1 := by kernel_rfl
  have hl4 : cs.length = 4 := hl.trans (by kernel_rfl)
  rw [k1] at h0 h1 h2 h3
  match cs, hl4 with
  | [c0, c1, c2, c3], _ =>
    simp only [List.drop, List.take] at h0 h1 h2 h3
    obtain ⟨a, e0, _, _⟩ := DataW.trod_int Try.underlying3 h0
    obtain ⟨b, e1, _, _⟩ := DataW.trod_int Try.underlying3 h1
    obtain ⟨c, e2, _, _⟩ := DataW.trod_int Try.underlying3 h2
    obtain ⟨d, e3, _, _⟩ := DataW.trod_int Try.underlying3 h3
    simp at e0 e1 e2 e3
    subst e0 e1 e2 e3
    exact ⟨⟨a, b, c, d⟩, rfl⟩

set_option maxRecDepth 100000 in
theorem open_ctl3 {r : Reach} {b0 : Nat} {v : Value} {d : DataW H} {p : List MemPlace}
    (hv : Value.okWide Try.prog w r b0 24 v) (h : DataW.Trod enc Try.prog w base spare held 24 v d p) :
    ∃ (s1 n1 p1 e1 s2 n2 p2 e2 s3 n3 p3 e3 : Int), v = .agg #[.int .i64 s1, .int .i64 n1, .int .i64 p1, .int .i64 e1, .int .i64 s2, .int .i64 n2, .int .i64 p2, .int .i64 e2, .int .i64 s3, .int .i64 n3, .int .i64 p3, .int .i64 e3] := by
  have ht := Try.underlying24
  have hC : Try.prog.cellsOf 24 = 12 := by kernel_rfl
  have hE : Try.prog.cellsOf 23 = 4 := by kernel_rfl
  simp only [Value.okWide, ht] at hv
  obtain ⟨cs, rfl, hsz, _⟩ := hv
  obtain ⟨fuel, hf⟩ := h
  obtain ⟨xs, m, _, _, _, hxl, hi⟩ := DataW.trod_array ht hf
  have hsz' : cs.size = 12 := hsz.trans hC
  obtain ⟨cl⟩ := cs
  have hcl : cl.length = 12 := by simpa using hsz'
  rw [hE] at hi
  have h0 := hi 0 (by omega)
  have h1 := hi 1 (by omega)
  have h2 := hi 2 (by omega)
  rw [List.getElem?_eq_getElem (by omega)] at h0 h1 h2
  match cl, hcl with
  | [c0, c1, c2, c3, c4, c5, c6, c7, c8, c9, c10, c11], _ =>
    simp only [Value.cells, List.drop, List.take, Nat.zero_mul, Nat.reduceMul] at h0 h1 h2
    obtain ⟨a, e0⟩ := ctl_of_trod _ _ _ h0
    obtain ⟨b, e1⟩ := ctl_of_trod _ _ _ h1
    obtain ⟨c, e2⟩ := ctl_of_trod _ _ _ h2
    simp [Ctl.cells] at e0 e1 e2
    obtain ⟨r0, r1, r2, r3⟩ := e0
    obtain ⟨r4, r5, r6, r7⟩ := e1
    obtain ⟨r8, r9, r10, r11⟩ := e2
    subst r0 r1 r2 r3 r4 r5 r6 r7 r8 r9 r10 r11
    exact ⟨_, _, _, _, _, _, _, _, _, _, _, _, rfl⟩

set_option maxRecDepth 100000 in
theorem turn_of_trod (n : Nat) (cs : List Value) (y : DataW H × List MemPlace) (h : DataW.trod enc Try.prog w base spare held n 43 cs = some y) : ∃ t, cs = tnCells t ∧ TnOk t := by
  obtain ⟨y0, y1, y2, y3, m, _, hl, h0, h1, h2, h3⟩ := Go.Joins.trod_struct4 Try.underlying43 h
  have k0 : Try.prog.cellsOf 5 = 1 := by kernel_rfl
  have k1 : Try.prog.cellsOf 23 = 4 := by kernel_rfl
  have hl7 : cs.length = 7 := hl.trans (by kernel_rfl)
  rw [k0] at h0 h1 h2
  rw [k1] at h3
  match cs, hl7 with
  | [c0, c1, c2, c3, c4, c5, c6], _ =>
    simp only [List.drop, List.take] at h0 h1 h2 h3
    obtain ⟨a, e0, _, w0⟩ := DataW.trod_int Try.underlying5 h0
    obtain ⟨b, e1, _, w1⟩ := DataW.trod_int Try.underlying5 h1
    obtain ⟨c, e2, _, w2⟩ := DataW.trod_int Try.underlying5 h2
    obtain ⟨d, e3⟩ := ctl_of_trod _ _ _ h3
    simp [Ctl.cells] at e0 e1 e2 e3
    obtain ⟨r0, r1, r2, r3⟩ := e3
    subst e0 e1 e2 r0 r1 r2 r3
    exact ⟨⟨a, b, c, d⟩, rfl, ⟨wf_u8 w0, wf_u8 w1, wf_u8 w2⟩⟩
end
end Go.Proofs.Ytconieenkeajiaa
