/- The document's scopes in memory; the walks of its Is, Ctl, Extent, become, Enter, Leave, Open, Hold. (Printed by gen_scref.py.) -/
import Derived.Test.YthedndejlfkknaaFoundNew
import Derived.Test.YthedndejlfkknaaFLaw
namespace Go.Proofs.Ythedndejlfkknaa
open Go.RowKit

def ctlRow (l : List Sc) (dc : List Value) : List Value := (l.map (·.c)).flatMap Ctl.cells ++ dc
def extRow (l : List Sc) (dx : List Value) : List Value := (l.map (·.x)).flatMap extCells ++ dx
structure RSc (B : Nat) (w : World) (p bc bx g gq cc cx : Nat) (dc dx : List Value) (f e : Int) (S : Sco) (bb : List Bool) : Prop where
  hd : w.heap[p]? = some (.cells #[.slice (some ⟨bc, 0, none⟩) S.l.length cc, .slice (some ⟨bx, 0, none⟩) S.l.length cx, .pointer (some ⟨g, 0, none⟩)] 145 (0, 0))
  rowc : w.heap[bc]? = some (.cells (ctlRow S.l dc).toArray 56 (0, 0))
  rowx : w.heap[bx]? = some (.cells (extRow S.l dx).toArray 65 (0, 0))
  rg : RG B w g gq f bb
  tw : Twin f e S.F bb
  ap : (p ≠ bc ∧ p ≠ bx ∧ p ≠ g ∧ p ≠ gq) ∧ (bc ≠ bx ∧ bc ≠ g ∧ bc ≠ gq) ∧ (bx ≠ g ∧ bx ≠ gq) ∧ g ≠ gq
  low : B ≤ p ∧ B ≤ bc ∧ B ≤ bx
  n1 : 1 ≤ S.l.length
  n8 : S.l.length ≤ 8
  ncc : S.l.length ≤ cc ∧ cc ≤ maxLen ∧ S.l.length ≤ cx ∧ cx ≤ maxLen
  ok : ∀ s ∈ S.l, ScOk s
abbrev RT (bc bx gq : Nat) : List Nat := [bc, bx, gq]

section
variable {B p bc bx g gq cc cx : Nat} {dc dx : List Value} {f e : Int} {S : Sco} {bb : List Bool} {w w' : World}
theorem RSc.kept {T : List Nat} (h : RSc B w p bc bx g gq cc cx dc dx f e S bb) (k : Keep T w w') (hp : p ∉ T) (hc : bc ∉ T) (hx : bx ∉ T) (hg : g ∉ T) (hq : gq ∉ T) : RSc B w' p bc bx g gq cc cx dc dx f e S bb :=
  { h with hd := k.row h.hd hp, rowc := k.row h.rowc hc, rowx := k.row h.rowx hx, rg := h.rg.kept k hg hq }
theorem RSc.below (h : RSc B w p bc bx g gq cc cx dc dx f e S bb) (k : Below w.heap.size w w') : RSc B w' p bc bx g gq cc cx dc dx f e S bb :=
  { h with hd := row_below h.hd k, rowc := row_below h.rowc k, rowx := row_below h.rowx k, rg := h.rg.below k }
theorem RSc.lt (h : RSc B w p bc bx g gq cc cx dc dx f e S bb) : p < w.heap.size ∧ bc < w.heap.size ∧ bx < w.heap.size ∧ g < w.heap.size ∧ gq < w.heap.size :=
  ⟨lt_of_heap h.hd, lt_of_heap h.rowc, lt_of_heap h.rowx, h.rg.lt.1, h.rg.lt.2⟩
theorem RSc.keep_below {a : World} (h : RSc B w p bc bx g gq cc cx dc dx f e S bb) (hb : Below B a w) (k : Keep (RT bc bx gq) w w') : Below B a w' :=
  Keep.under hb k (Nat.le_trans h.low.1 (Nat.le_of_lt h.lt.1)) (fun i hi => by
    simp at hi
    rcases hi with rfl | rfl | rfl
    · exact h.low.2.1
    · exact h.low.2.2
    · exact h.rg.lowq)
theorem RSc.ctlp (h : RSc B w p bc bx g gq cc cx dc dx f e S bb) (k : Keep [bc] w w') (l : List Sc) (hl : l.length = S.l.length) (hx : extRow l dx = extRow S.l dx) (hr : w'.heap[bc]? = some (.cells (ctlRow l dc).toArray 56 (0, 0))) (ho : ∀ s ∈ l, ScOk s) :
    RSc B w' p bc bx g gq cc cx dc dx f e ⟨l, S.F⟩ bb :=
  { h with
    hd := by have := k.row h.hd (by simpa using h.ap.1.1); rw [← hl] at this; exact this
    rowc := hr
    rowx := by have := k.row h.rowx (by simpa using Ne.symm h.ap.2.1.1); rw [← hx] at this; exact this
    rg := h.rg.kept k (by simpa using Ne.symm h.ap.2.1.2.1) (by simpa using Ne.symm h.ap.2.1.2.2)
    n1 := by rw [hl]; exact h.n1
    n8 := by rw [hl]; exact h.n8
    ncc := by rw [hl]; exact h.ncc
    ok := ho }
end

theorem ctlRow_part {l : List Sc} {k : Nat} {s : Sc} (dc : List Value) (h : l[k]? = some s) : ∃ P R, P.length = k * 4 ∧ ctlRow l dc = P ++ (.int .i64 s.c.st :: .int .i64 s.c.n :: .int .i64 s.c.p :: .int .i64 s.c.ep :: R) ∧ ∀ t : Sc, ctlRow (l.set k t) dc = P ++ (.int .i64 t.c.st :: .int .i64 t.c.n :: .int .i64 t.c.p :: .int .i64 t.c.ep :: R) := by
  have hk := (List.getElem?_eq_some_iff.1 h).1
  refine ⟨((l.take k).map (·.c)).flatMap Ctl.cells, ((l.drop (k + 1)).map (·.c)).flatMap Ctl.cells ++ dc, ?_, ?_, fun d => ?_⟩
  · rw [flat_length Ctl.cells 4 (fun _ => rfl), List.length_map, List.length_take, Nat.min_eq_left (Nat.le_of_lt hk)]
  · rw [ctlRow]
    conv => lhs; rw [parted h]
    simp [List.flatMap_append]
  · rw [ctlRow, List.set_eq_take_append_cons_drop, if_pos hk]
    simp [List.flatMap_append]
theorem extRow_part {l : List Sc} {k : Nat} {s : Sc} (dx : List Value) (h : l[k]? = some s) : ∃ P R, P.length = k * 2 ∧ extRow l dx = P ++ (.int .i64 s.x.1 :: .int .i64 s.x.2 :: R) ∧ ∀ t : Sc, extRow (l.set k t) dx = P ++ (.int .i64 t.x.1 :: .int .i64 t.x.2 :: R) := by
  have hk := (List.getElem?_eq_some_iff.1 h).1
  refine ⟨((l.take k).map (·.x)).flatMap extCells, ((l.drop (k + 1)).map (·.x)).flatMap extCells ++ dx, ?_, ?_, fun d => ?_⟩
  · rw [exts_len, List.length_map, List.length_take, Nat.min_eq_left (Nat.le_of_lt hk)]
  · rw [extRow]
    conv => lhs; rw [parted h]
    simp [List.flatMap_append, extCells]
  · rw [extRow, List.set_eq_take_append_cons_drop, if_pos hk]
    simp [List.flatMap_append, extCells]
theorem set4' (P R : List Value) (a b c d u v x y : Value) : ((((P ++ (a :: b :: c :: d :: R)).toArray.setIfInBounds P.length u).setIfInBounds (P.length + 1) v).setIfInBounds (P.length + 2) x).setIfInBounds (P.length + 3) y = (P ++ (u :: v :: x :: y :: R)).toArray := by
  apply Array.ext'
  simp
theorem set1' (P R : List Value) (a u : Value) : (P ++ (a :: R)).toArray.setIfInBounds P.length u = (P ++ (u :: R)).toArray := by
  apply Array.ext'
  simp
theorem set2' (P R : List Value) (a b u v : Value) : ((P ++ (a :: b :: R)).toArray.setIfInBounds P.length u).setIfInBounds (P.length + 1) v = (P ++ (u :: v :: R)).toArray := by
  apply Array.ext'
  simp
abbrev CRow (w : World) (b : Nat) (l : List Sc) (dc : List Value) : Prop := w.heap[b]? = some (.cells (ctlRow l dc).toArray 56 (0, 0))
abbrev XRow (w : World) (b : Nat) (l : List Sc) (dx : List Value) : Prop := w.heap[b]? = some (.cells (extRow l dx).toArray 65 (0, 0))
theorem crow_cells {w : World} {b : Nat} {l : List Sc} {dc : List Value} (h : CRow w b l dc) {k : Nat} {s : Sc} (hs : l[k]? = some s) :
    w.cell? ⟨b, k * 4, none⟩ = some (.int .i64 s.c.st) ∧ w.cell? ⟨b, k * 4 + 1, none⟩ = some (.int .i64 s.c.n) ∧ w.cell? ⟨b, k * 4 + 2, none⟩ = some (.int .i64 s.c.p) ∧ w.cell? ⟨b, k * 4 + 3, none⟩ = some (.int .i64 s.c.ep) := by
  obtain ⟨P, R, hP, hA, _⟩ := ctlRow_part dc hs
  simp only [CRow, hA] at h
  refine ⟨?_, ?_, ?_, ?_⟩ <;> rw [row_cell h] <;> simp [← hP]
theorem xrow_cells {w : World} {b : Nat} {l : List Sc} {dx : List Value} (h : XRow w b l dx) {k : Nat} {s : Sc} (hs : l[k]? = some s) :
    w.cell? ⟨b, k * 2, none⟩ = some (.int .i64 s.x.1) ∧ w.cell? ⟨b, k * 2 + 1, none⟩ = some (.int .i64 s.x.2) := by
  obtain ⟨P, R, hP, hA, _⟩ := extRow_part dx hs
  simp only [XRow, hA] at h
  refine ⟨?_, ?_⟩ <;> rw [row_cell h] <;> simp [← hP]
theorem crow_store {w : World} {b : Nat} {l : List Sc} {dc : List Value} (h : CRow w b l dc) {k : Nat} {s : Sc} (hs : l[k]? = some s) (t : Sc) :
    CRow ((((w.setCell ⟨b, k * 4, none⟩ (.int .i64 t.c.st)).setCell ⟨b, k * 4 + 1, none⟩ (.int .i64 t.c.n)).setCell ⟨b, k * 4 + 2, none⟩ (.int .i64 t.c.p)).setCell ⟨b, k * 4 + 3, none⟩ (.int .i64 t.c.ep)) b (l.set k t) dc := by
  obtain ⟨P, R, hP, hA, hD⟩ := ctlRow_part dc hs
  simp only [CRow, hA] at h
  have := row_set (i := k * 4 + 3) (row_set (i := k * 4 + 2) (row_set (i := k * 4 + 1) (row_set (i := k * 4) h (.int .i64 t.c.st)) (.int .i64 t.c.n)) (.int .i64 t.c.p)) (.int .i64 t.c.ep)
  rw [← hP, set4'] at this
  simp only [CRow, hD t, ← hP]
  exact this
theorem crow_store1 {w : World} {b : Nat} {l : List Sc} {dc : List Value} (h : CRow w b l dc) {k : Nat} {s : Sc} (hs : l[k]? = some s) (a : Int) (x : Ext) :
    CRow (w.setCell ⟨b, k * 4, none⟩ (.int .i64 a)) b (l.set k ⟨⟨a, s.c.n, s.c.p, s.c.ep⟩, x⟩) dc := by
  obtain ⟨P, R, hP, hA, hD⟩ := ctlRow_part dc hs
  simp only [CRow, hA] at h
  have := row_set (i := k * 4) h (.int .i64 a)
  rw [← hP, set1'] at this
  simp only [CRow, hD, ← hP]
  exact this
theorem xrow_store {w : World} {b : Nat} {l : List Sc} {dx : List Value} (h : XRow w b l dx) {k : Nat} {s : Sc} (hs : l[k]? = some s) (t : Sc) :
    XRow ((w.setCell ⟨b, k * 2, none⟩ (.int .i64 t.x.1)).setCell ⟨b, k * 2 + 1, none⟩ (.int .i64 t.x.2)) b (l.set k t) dx := by
  obtain ⟨P, R, hP, hA, hD⟩ := extRow_part dx hs
  simp only [XRow, hA] at h
  have := row_set (i := k * 2 + 1) (row_set (i := k * 2) h (.int .i64 t.x.1)) (.int .i64 t.x.2)
  rw [← hP, set2'] at this
  simp only [XRow, hD t, ← hP]
  exact this
theorem extRow_set {l : List Sc} {k : Nat} {s : Sc} (dx : List Value) (hs : l[k]? = some s) (t : Sc) (h : t.x = s.x) : extRow (l.set k t) dx = extRow l dx := by
  obtain ⟨P, R, hP, hA, hD⟩ := extRow_part dx hs
  rw [hD t, hA, h]
theorem inS_eq (i lo : Int) (S : Sco) : inS i lo S = (decide (lo ≤ i) && decide (i < (S.l.length : Int))) := by
  simp only [inS, inB]
  rw [Bool.eq_iff_iff]
  simp
  omega

set_option maxHeartbeats 400000 in
theorem ris_any (B p bc bx g gq cc cx : Nat) (dc dx : List Value) (f e : Int) (S : Sco) (bb : List Bool) (i : Int) (w : World) (h : RSc B w p bc bx g gq cc cx dc dx f e S bb) :
    Calls Try.prog 78 #[.pointer (some ⟨p, 0, none⟩), .int .i64 i] w fun r w' => r = .returned (.bool (inS i 1 S)) ∧ w' = w := by
  obtain ⟨h0, _, _, _, _, _⟩ := box3 h.hd
  have hn := h.n8
  rw [inS_eq]
  clear h
  by_cases h1 : 1 ≤ i
  · have d1 : decide (1 ≤ i) = true := decide_eq_true h1
    rw [d1]
    go_enter Try.func78, Try.ntmps78
    go_wp2
    go_ret
    exact ⟨rfl, rfl⟩
  · have d1 : decide (1 ≤ i) = false := decide_eq_false h1
    rw [d1]
    go_enter Try.func78, Try.ntmps78
    go_wp2
    go_ret
    exact ⟨rfl, rfl⟩


theorem Keep.four {T : List Nat} {w w' : World} (h : Keep T w w') {b : Nat} (hb : b ∈ T) (i j m n : Nat) (u v x y : Value) : Keep T w ((((w'.setCell ⟨b, i, none⟩ u).setCell ⟨b, j, none⟩ v).setCell ⟨b, m, none⟩ x).setCell ⟨b, n, none⟩ y) :=
  (((h.setCell (.inl hb) u).setCell (.inl hb) v).setCell (.inl hb) x).setCell (.inl hb) y
theorem heap_plan (P : Pln) (w : World) (h : PlnOk P) : Calls Try.prog 23 #[P.val] w fun r w' => r = .returned (.agg #[.int .i64 (P.s * 64 + P.i), .int .i64 P.h]) ∧ Below w.heap.size w w' := by
  obtain ⟨s, t, i, m⟩ := P
  obtain ⟨h1, h2, h3, h4, h5, h6, h7, h8, h9, h10⟩ := h
  dsimp only at h1 h2 h3 h4 h5 h6 h7 h8 h9 h10
  have := rplanHeap_any s t i m w ⟨by omega, by omega, by omega, by omega, by omega, by omega, by omega, by omega, by omega, by omega⟩
  rw [Int.mul_comm 64 s] at this
  exact this
theorem immortal_plan (P : Pln) (w : World) (h : PlnOk P) : Calls Try.prog 64 #[P.val] w fun r w' => r = .returned (.agg #[.int .i64 (P.s * 64), .int .i64 P.i]) ∧ Below w.heap.size w w' := by
  obtain ⟨s, t, i, m⟩ := P
  obtain ⟨h1, h2, h3, h4, h5, h6, h7, h8, h9, h10⟩ := h
  dsimp only at h1 h2 h3 h4 h5 h6 h7 h8 h9 h10
  have := rplanImmortal_any s t i m w ⟨by omega, by omega, by omega, by omega, by omega, by omega, by omega, by omega, by omega, by omega⟩
  rw [Int.mul_comm 64 s] at this
  exact this
end Go.Proofs.Ythedndejlfkknaa
