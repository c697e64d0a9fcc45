/- The document's scopes in memory; the walks of its Is, Ctl, Extent, become, Enter, Leave, Open, Hold. (Printed by gen_scref.py.) -/
import Derived.Test.YtcicpfhbpcdjcaaScD
import Derived.Test.YtcicpfhbpcdjcaaScE
import Derived.Test.YtcicpfhbpcdjcaaScF
import Derived.Test.YtcicpfhbpcdjcaaCtlF
namespace Go.Proofs.Ytcicpfhbpcdjcaa
open Go.RowKit

def ctlRow (l : List Sc) (dc : List Value) : List Value := (l.map (·.c)).flatMap Ctl.cells ++ dc
def extRow (l : List Sc) (dx : List Value) : List Value := (l.map (·.x)).flatMap extCells ++ dx
structure RSc (B : Nat) (w : World) (p bc bx g gq cc cx : Nat) (dc dx : List Value) (f e : Int) (S : Sco) (bb : List Bool) : Prop where
  hd : w.heap[p]? = some (.cells #[.slice (some ⟨bc, 0, none⟩) S.l.length cc, .slice (some ⟨bx, 0, none⟩) S.l.length cx, .pointer (some ⟨g, 0, none⟩)] 65 (0, 0))
  rowc : w.heap[bc]? = some (.cells (ctlRow S.l dc).toArray 43 (0, 0))
  rowx : w.heap[bx]? = some (.cells (extRow S.l dx).toArray 32 (0, 0))
  rg : RG B w g gq f bb
  tw : Twin f e S.F bb
  ap : (p ≠ bc ∧ p ≠ bx ∧ p ≠ g ∧ p ≠ gq) ∧ (bc ≠ bx ∧ bc ≠ g ∧ bc ≠ gq) ∧ (bx ≠ g ∧ bx ≠ gq) ∧ g ≠ gq
  low : B ≤ p ∧ B ≤ bc ∧ B ≤ bx
  n1 : 1 ≤ S.l.length
  n8 : S.l.length ≤ 8
  ncc : S.l.length ≤ cc ∧ cc ≤ maxLen ∧ S.l.length ≤ cx ∧ cx ≤ maxLen
  ok : ∀ s ∈ S.l, ScOk s
abbrev RT (bc bx gq : Nat) : List Nat := [bc, bx, gq]

section
variable {B p bc bx g gq cc cx : Nat} {dc dx : List Value} {f e : Int} {S : Sco} {bb : List Bool} {w w' : World}
theorem RSc.kept {T : List Nat} (h : RSc B w p bc bx g gq cc cx dc dx f e S bb) (k : Keep T w w') (hp : p ∉ T) (hc : bc ∉ T) (hx : bx ∉ T) (hg : g ∉ T) (hq : gq ∉ T) : RSc B w' p bc bx g gq cc cx dc dx f e S bb :=
  { h with hd := k.row h.hd hp, rowc := k.row h.rowc hc, rowx := k.row h.rowx hx, rg := h.rg.kept k hg hq }
theorem RSc.below (h : RSc B w p bc bx g gq cc cx dc dx f e S bb) (k : Below w.heap.size w w') : RSc B w' p bc bx g gq cc cx dc dx f e S bb :=
  { h with hd := row_below h.hd k, rowc := row_below h.rowc k, rowx := row_below h.rowx k, rg := h.rg.below k }
theorem RSc.lt (h : RSc B w p bc bx g gq cc cx dc dx f e S bb) : p < w.heap.size ∧ bc < w.heap.size ∧ bx < w.heap.size ∧ g < w.heap.size ∧ gq < w.heap.size :=
  ⟨lt_of_heap h.hd, lt_of_heap h.rowc, lt_of_heap h.rowx, h.rg.lt.1, h.rg.lt.2⟩
theorem RSc.keep_below {a : World} (h : RSc B w p bc bx g gq cc cx dc dx f e S bb) (hb : Below B a w) (k : Keep (RT bc bx gq) w w') : Below B a w' :=
  Keep.under hb k (Nat.le_trans h.low.1 (Nat.le_of_lt h.lt.1)) (fun i hi => by
    simp at hi
    rcases hi with rfl | rfl | rfl
    · exact h.low.2.1
    · exact h.low.2.2
    · exact h.rg.lowq)
theorem RSc.ctlp (h : RSc B w p bc bx g gq cc cx dc dx f e S bb) (k : Keep [bc] w w') (l : List Sc) (hl : l.length = S.l.length) (hx : extRow l dx = extRow S.l dx) (hr : w'.heap[bc]? = some (.cells (ctlRow l dc).toArray 43 (0, 0))) (ho : ∀ s ∈ l, ScOk s) :
    RSc B w' p bc bx g gq cc cx dc dx f e ⟨l, S.F⟩ bb :=
  { h with
    hd := by have := k.row h.hd (by simpa using h.ap.1.1); rw [← hl] at this; exact this
    rowc := hr
    rowx := by have := k.row h.rowx (by simpa using Ne.symm h.ap.2.1.1); rw [← hx] at this; exact this
    rg := h.rg.kept k (by simpa using Ne.symm h.ap.2.1.2.1) (by simpa using Ne.symm h.ap.2.1.2.2)
    n1 := by rw [hl]; exact h.n1
    n8 := by rw [hl]; exact h.n8
    ncc := by rw [hl]; exact h.ncc
    ok := ho }
end

theorem ctlRow_part {l : List Sc} {k : Nat} {s : Sc} (dc : List Value) (h : l[k]? = some s) : ∃ P R, P.length = k * 4 ∧ ctlRow l dc = P ++ (.int .i64 s.c.st :: .int .i64 s.c.n :: .int .i64 s.c.p :: .int .i64 s.c.ep :: R) ∧ ∀ t : Sc, ctlRow (l.set k t) dc = P ++ (.int .i64 t.c.st :: .int .i64 t.c.n :: .int .i64 t.c.p :: .int .i64 t.c.ep :: R) := by
  have hk := (List.getElem?_eq_some_iff.1 h).1
  refine ⟨((l.take k).map (·.c)).flatMap Ctl.cells, ((l.drop (k + 1)).map (·.c)).flatMap Ctl.cells ++ dc, ?_, ?_, fun d => ?_⟩
  · rw [flat_length Ctl.cells 4 (fun _ => rfl), List.length_map, List.length_take, Nat.min_eq_left (Nat.le_of_lt hk)]
  · rw [ctlRow]
    conv => lhs; rw [parted h]
    simp [List.flatMap_append]
  · rw [ctlRow, List.set_eq_take_append_cons_drop, if_pos hk]
    simp [List.flatMap_append]
theorem extRow_part {l : List Sc} {k : Nat} {s : Sc} (dx : List Value) (h : l[k]? = some s) : ∃ P R, P.length = k * 2 ∧ extRow l dx = P ++ (.int .i64 s.x.1 :: .int .i64 s.x.2 :: R) ∧ ∀ t : Sc, extRow (l.set k t) dx = P ++ (.int .i64 t.x.1 :: .int .i64 t.x.2 :: R) := by
  have hk := (List.getElem?_eq_some_iff.1 h).1
  refine ⟨((l.take k).map (·.x)).flatMap extCells, ((l.drop (k + 1)).map (·.x)).flatMap extCells ++ dx, ?_, ?_, fun d => ?_⟩
  · rw [exts_len, List.length_map, List.length_take, Nat.min_eq_left (Nat.le_of_lt hk)]
  · rw [extRow]
    conv => lhs; rw [parted h]
    simp [List.flatMap_append, extCells]
  · rw [extRow, List.set_eq_take_append_cons_drop, if_pos hk]
    simp [List.flatMap_append, extCells]
theorem set4' (P R : List Value) (a b c d u v x y : Value) : ((((P ++ (a :: b :: c :: d :: R)).toArray.setIfInBounds P.length u).setIfInBounds (P.length + 1) v).setIfInBounds (P.length + 2) x).setIfInBounds (P.length + 3) y = (P ++ (u :: v :: x :: y :: R)).toArray := by
  apply Array.ext'
  simp
theorem set1' (P R : List Value) (a u : Value) : (P ++ (a :: R)).toArray.setIfInBounds P.length u = (P ++ (u :: R)).toArray := by
  apply Array.ext'
  simp
theorem set2' (P R : List Value) (a b u v : Value) : ((P ++ (a :: b :: R)).toArray.setIfInBounds P.length u).setIfInBounds (P.length + 1) v = (P ++ (u :: v :: R)).toArray := by
  apply Array.ext'
  simp
abbrev CRow (w : World) (b : Nat) (l : List Sc) (dc : List Value) : Prop := w.heap[b]? = some (.cells (ctlRow l dc).toArray 43 (0, 0))
abbrev XRow (w : World) (b : Nat) (l : List Sc) (dx : List Value) : Prop := w.heap[b]? = some (.cells (extRow l dx).toArray 32 (0, 0))
theorem crow_cells {w : World} {b : Nat} {l : List Sc} {dc : List Value} (h : CRow w b l dc) {k : Nat} {s : Sc} (hs : l[k]? = some s) :
    w.cell? ⟨b, k * 4, none⟩ = some (.int .i64 s.c.st) ∧ w.cell? ⟨b, k * 4 + 1, none⟩ = some (.int .i64 s.c.n) ∧ w.cell? ⟨b, k * 4 + 2, none⟩ = some (.int .i64 s.c.p) ∧ w.cell? ⟨b, k * 4 + 3, none⟩ = some (.int .i64 s.c.ep) := by
  obtain ⟨P, R, hP, hA, _⟩ := ctlRow_part dc hs
  simp only [CRow, hA] at h
  refine ⟨?_, ?_, ?_, ?_⟩ <;> rw [row_cell h] <;> simp [← hP]
theorem xrow_cells {w : World} {b : Nat} {l : List Sc} {dx : List Value} (h : XRow w b l dx) {k : Nat} {s : Sc} (hs : l[k]? = some s) :
    w.cell? ⟨b, k * 2, none⟩ = some (.int .i64 s.x.1) ∧ w.cell? ⟨b, k * 2 + 1, none⟩ = some (.int .i64 s.x.2) := by
  obtain ⟨P, R, hP, hA, _⟩ := extRow_part dx hs
  simp only [XRow, hA] at h
  refine ⟨?_, ?_⟩ <;> rw [row_cell h] <;> simp [← hP]
theorem crow_store {w : World} {b : Nat} {l : List Sc} {dc : List Value} (h : CRow w b l dc) {k : Nat} {s : Sc} (hs : l[k]? = some s) (t : Sc) :
    CRow ((((w.setCell ⟨b, k * 4, none⟩ (.int .i64 t.c.st)).setCell ⟨b, k * 4 + 1, none⟩ (.int .i64 t.c.n)).setCell ⟨b, k * 4 + 2, none⟩ (.int .i64 t.c.p)).setCell ⟨b, k * 4 + 3, none⟩ (.int .i64 t.c.ep)) b (l.set k t) dc := by
  obtain ⟨P, R, hP, hA, hD⟩ := ctlRow_part dc hs
  simp only [CRow, hA] at h
  have := row_set (i := k * 4 + 3) (row_set (i := k * 4 + 2) (row_set (i := k * 4 + 1) (row_set (i := k * 4) h (.int .i64 t.c.st)) (.int .i64 t.c.n)) (.int .i64 t.c.p)) (.int .i64 t.c.ep)
  rw [← hP, set4'] at this
  simp only [CRow, hD t, ← hP]
  exact this
theorem crow_store1 {w : World} {b : Nat} {l : List Sc} {dc : List Value} (h : CRow w b l dc) {k : Nat} {s : Sc} (hs : l[k]? = some s) (a : Int) (x : Ext) :
    CRow (w.setCell ⟨b, k * 4, none⟩ (.int .i64 a)) b (l.set k ⟨⟨a, s.c.n, s.c.p, s.c.ep⟩, x⟩) dc := by
  obtain ⟨P, R, hP, hA, hD⟩ := ctlRow_part dc hs
  simp only [CRow, hA] at h
  have := row_set (i := k * 4) h (.int .i64 a)
  rw [← hP, set1'] at this
  simp only [CRow, hD, ← hP]
  exact this
theorem xrow_store {w : World} {b : Nat} {l : List Sc} {dx : List Value} (h : XRow w b l dx) {k : Nat} {s : Sc} (hs : l[k]? = some s) (t : Sc) :
    XRow ((w.setCell ⟨b, k * 2, none⟩ (.int .i64 t.x.1)).setCell ⟨b, k * 2 + 1, none⟩ (.int .i64 t.x.2)) b (l.set k t) dx := by
  obtain ⟨P, R, hP, hA, hD⟩ := extRow_part dx hs
  simp only [XRow, hA] at h
  have := row_set (i := k * 2 + 1) (row_set (i := k * 2) h (.int .i64 t.x.1)) (.int .i64 t.x.2)
  rw [← hP, set2'] at this
  simp only [XRow, hD t, ← hP]
  exact this
theorem extRow_set {l : List Sc} {k : Nat} {s : Sc} (dx : List Value) (hs : l[k]? = some s) (t : Sc) (h : t.x = s.x) : extRow (l.set k t) dx = extRow l dx := by
  obtain ⟨P, R, hP, hA, hD⟩ := extRow_part dx hs
  rw [hD t, hA, h]
theorem inS_eq (i lo : Int) (S : Sco) : inS i lo S = (decide (lo ≤ i) && decide (i < (S.l.length : Int))) := by
  simp only [inS, inB]
  rw [Bool.eq_iff_iff]
  simp
  omega

set_option maxHeartbeats 400000 in
theorem ris_any (B p bc bx g gq cc cx : Nat) (dc dx : List Value) (f e : Int) (S : Sco) (bb : List Bool) (i : Int) (w : World) (h : RSc B w p bc bx g gq cc cx dc dx f e S bb) :
    Calls Try.prog 56 #[.pointer (some ⟨p, 0, none⟩), .int .i64 i] w fun r w' => r = .returned (.bool (inS i 1 S)) ∧ w' = w := by
  obtain ⟨h0, _, _, _, _, _⟩ := box3 h.hd
  have hn := h.n8
  rw [inS_eq]
  clear h
  by_cases h1 : 1 ≤ i
  · have d1 : decide (1 ≤ i) = true := decide_eq_true h1
    rw [d1]
    go_enter Try.func56, Try.ntmps56
    go_wp2
    go_ret
    exact ⟨rfl, rfl⟩
  · have d1 : decide (1 ≤ i) = false := decide_eq_false h1
    rw [d1]
    go_enter Try.func56, Try.ntmps56
    go_wp2
    go_ret
    exact ⟨rfl, rfl⟩

set_option maxHeartbeats 1000000 in
theorem rctl_any (B p bc bx g gq cc cx : Nat) (dc dx : List Value) (f e : Int) (S : Sco) (bb : List Bool) (i : Int) (w : World) (h : RSc B w p bc bx g gq cc cx dc dx f e S bb) :
    Calls Try.prog 32 #[.pointer (some ⟨p, 0, none⟩), .int .i64 i] w fun r w' => r = .returned (.tuple #[(ctlS i S).1.val, .int .i64 (ctlS i S).2]) ∧ Below w.heap.size w w' := by
  have hB : Below w.heap.size w (w.alloc (.cells #[.int .i64 0, .int .i64 0, .int .i64 0, .int .i64 0] 43)) := by go_grown
  have h1 := h.below hB
  have R := Lib.hid (row_new w #[.int .i64 0, .int .i64 0, .int .i64 0, .int .i64 0] 43)
  obtain ⟨r0, r1, r2, r3, f0, f1, f2, f3⟩ := box4 R.out
  obtain ⟨d0, d1, d2, _, _, _⟩ := box3 h1.hd
  have hn8 := h.n8
  have hcc := h.ncc
  have hlt := h.lt
  by_cases h0 : i < 0
  · rw [show ctlS i S = (noCtl, 11) by unfold ctlS; rw [if_pos (by rw [inS_eq]; simp; omega)]]
    clear h h1 hB
    go_enter Try.func32, Try.ntmps32
    go_wp2
    go_returns
    exact ⟨rfl, by go_grown⟩
  · by_cases h2 : i < (S.l.length : Int)
    · obtain ⟨k, rfl⟩ : ∃ k : Nat, i = k := ⟨i.toNat, by omega⟩
      have hk : k < S.l.length := by omega
      obtain ⟨s, hs⟩ : ∃ s, S.l[k]? = some s := ⟨_, List.getElem?_eq_getElem hk⟩
      rw [show ctlS k S = (s.c, 0) by unfold ctlS; rw [if_neg (by rw [inS_eq]; simp; omega), Int.toNat_natCast, hs]]
      obtain ⟨q0, q1, q2, q3⟩ := crow_cells h1.rowc hs
      have hge : ¬ (S.l.length : Int) ≤ (k : Int) := by omega
      clear h h1 hB hs
      go_enter Try.func32, Try.ntmps32
      go_wp2
      go_returns
      exact ⟨rfl, by go_grown⟩
    · have hge : (S.l.length : Int) ≤ i := by omega
      rw [show ctlS i S = (noCtl, 11) by unfold ctlS; rw [if_pos (by rw [inS_eq]; simp; omega)]]
      clear h h1 hB
      go_enter Try.func32, Try.ntmps32
      go_wp2
      go_returns
      exact ⟨rfl, by go_grown⟩

set_option maxHeartbeats 1000000 in
theorem rext_any (B p bc bx g gq cc cx : Nat) (dc dx : List Value) (f e : Int) (S : Sco) (bb : List Bool) (i : Int) (w : World) (h : RSc B w p bc bx g gq cc cx dc dx f e S bb) :
    Calls Try.prog 33 #[.pointer (some ⟨p, 0, none⟩), .int .i64 i] w fun r w' => r = .returned (.tuple #[.agg #[.int .i64 (extS i S).1.1, .int .i64 (extS i S).1.2], .int .i64 (extS i S).2]) ∧ Below w.heap.size w w' := by
  have hB : Below w.heap.size w (w.alloc (.cells #[.int .i64 0, .int .i64 0] 32)) := by go_grown
  have h1 := h.below hB
  have R := Lib.hid (row_new w #[.int .i64 0, .int .i64 0] 32)
  obtain ⟨r0, r1, f0, f1⟩ := box2 R.out
  obtain ⟨d0, d1, d2, _, _, _⟩ := box3 h1.hd
  have hn8 := h.n8
  have hcc := h.ncc
  have hlt := h.lt
  by_cases h0 : i < 0
  · rw [show extS i S = ((0, 0), 11) by unfold extS; rw [if_pos (by rw [inS_eq]; simp; omega)]]
    clear h h1 hB
    go_enter Try.func33, Try.ntmps33
    go_wp2
    go_returns
    exact ⟨rfl, by go_grown⟩
  · by_cases h2 : i < (S.l.length : Int)
    · obtain ⟨k, rfl⟩ : ∃ k : Nat, i = k := ⟨i.toNat, by omega⟩
      have hk : k < S.l.length := by omega
      obtain ⟨s, hs⟩ : ∃ s, S.l[k]? = some s := ⟨_, List.getElem?_eq_getElem hk⟩
      rw [show extS k S = (s.x, 0) by unfold extS; rw [if_neg (by rw [inS_eq]; simp; omega), Int.toNat_natCast, hs]]
      obtain ⟨q0, q1⟩ := xrow_cells h1.rowx hs
      have hge : ¬ (S.l.length : Int) ≤ (k : Int) := by omega
      clear h h1 hB hs
      go_enter Try.func33, Try.ntmps33
      go_wp2
      go_returns
      exact ⟨rfl, by go_grown⟩
    · have hge : (S.l.length : Int) ≤ i := by omega
      rw [show extS i S = ((0, 0), 11) by unfold extS; rw [if_pos (by rw [inS_eq]; simp; omega)]]
      clear h h1 hB
      go_enter Try.func33, Try.ntmps33
      go_wp2
      go_returns
      exact ⟨rfl, by go_grown⟩

set_option maxHeartbeats 1000000 in
theorem become_no (B p bc bx g gq cc cx : Nat) (dc dx : List Value) (f e : Int) (S : Sco) (bb : List Bool) (i : Int) (c : Ctl) (z : Int) (w : World) (_ : RSc B w p bc bx g gq cc cx dc dx f e S bb) (hz : z ≠ 0) :
    Calls Try.prog 59 #[.pointer (some ⟨p, 0, none⟩), .int .i64 i, c.val, .int .i64 z] w fun r w' => r = .returned (.int .i64 z) ∧ Below w.heap.size w w' := by
  have hz' : (z == 0) = false := by simpa using hz
  clear hz
  go_enter Try.func59, Try.ntmps59
  go_wp2
  go_ret
  exact ⟨rfl, by go_grown⟩
set_option maxHeartbeats 1000000 in
theorem become_yes (B p bc bx g gq cc cx : Nat) (dc dx : List Value) (f e : Int) (S : Sco) (bb : List Bool) (k : Nat) (s : Sc) (c : Ctl) (w : World) (h : RSc B w p bc bx g gq cc cx dc dx f e S bb) (hs : S.l[k]? = some s) (hr : Right c) :
    Calls Try.prog 59 #[.pointer (some ⟨p, 0, none⟩), .int .i64 k, c.val, .int .i64 0] w fun r w' => r = .returned (.int .i64 0) ∧ RSc B w' p bc bx g gq cc cx dc dx f e ⟨S.l.set k ⟨c, s.x⟩, S.F⟩ bb ∧ Keep [bc] w w' := by
  have hX : Below w.heap.size w (w.alloc (.cells #[.int .i64 c.st, .int .i64 c.n, .int .i64 c.p, .int .i64 c.ep] 43)) := by go_grown
  have hN := row_new w #[.int .i64 c.st, .int .i64 c.n, .int .i64 c.p, .int .i64 c.ep] 43
  obtain ⟨w1, HW1⟩ : ∃ w1, Hid (w.alloc (.cells #[.int .i64 c.st, .int .i64 c.n, .int .i64 c.p, .int .i64 c.ep] 43) = w1) := ⟨_, rfl⟩
  rw [HW1.out] at hX hN
  have h1 := h.below hX
  have HH := Lib.hid (h1.below (Below.drew (Below.refl _ w1)))
  have HK := Lib.hid (keep_below (hX.drew) [bc])
  obtain ⟨d0, _, _, _, _, _⟩ := box3 h1.hd
  obtain ⟨q0, q1, q2, q3⟩ := crow_cells h1.rowc hs
  obtain ⟨m0, m1, m2, m3, _, _, _, _⟩ := box4 hN
  have f0 := row_frozen h1.rowc (k * 4)
  have f1 := row_frozen h1.rowc (k * 4 + 1)
  have f2 := row_frozen h1.rowc (k * 4 + 2)
  have f3 := row_frozen h1.rowc (k * 4 + 3)
  have hk := (List.getElem?_eq_some_iff.1 hs).1
  have hkk : (k : Int) < (S.l.length : Int) := by omega
  obtain ⟨lp, lc, lx, lg, lq⟩ := h.lt
  have hw1 := lt_of_heap hN
  have lc1 : bc < w1.heap.size := by omega
  have hpc := h.ap.1.1
  have hn8 := h.n8
  have Hs := Lib.hid hs
  have Hok := Lib.hid h.ok
  clear h h1 hs hX hN
  go_enter Try.func59, Try.ntmps59
  go_wp2
  rw [HW1.out]
  go_region
  go_wp2
  go_ret
  have hst := crow_store HH.out.rowc Hs.out ⟨c, s.x⟩
  have K := (Keep.refl [bc] w1.drew).four (b := bc) (by simp) (k * 4) (k * 4 + 1) (k * 4 + 2) (k * 4 + 3) (.int .i64 c.st) (.int .i64 c.n) (.int .i64 c.p) (.int .i64 c.ep)
  refine ⟨rfl, HH.out.ctlp K _ (List.length_set ..) (extRow_set dx Hs.out _ rfl) hst (fun t ht => (mem_set_or ht).elim (fun e => ?_) (Hok.out t)), HK.out.trans K⟩
  subst e
  have := Hok.out s (List.mem_of_getElem? Hs.out)
  exact ⟨hr, this.x0, this.x1⟩

set_option maxHeartbeats 2000000 in
theorem renterS_any (B p bc bx g gq cc cx : Nat) (dc dx : List Value) (f e : Int) (S : Sco) (bb : List Bool) (i : Int) (m : Int) (w : World) (h : RSc B w p bc bx g gq cc cx dc dx f e S bb) :
    Calls Try.prog 31 #[.pointer (some ⟨p, 0, none⟩), .int .i64 i, .int .i64 m] w fun r w' => r = .returned (.int .i64 (enterS i m S).1) ∧ RSc B w' p bc bx g gq cc cx dc dx f e (enterS i m S).2 bb ∧ Keep [bc] w w' := by
  have HI := Lib.hid (ris_any B p bc bx g gq cc cx dc dx f e S bb i w h)
  have HH := Lib.hid h
  cases hin : inS i 1 S with
  | false =>
    have hc0 : changeS (fun c => enter c m) i S = (11, S) := by unfold changeS; rw [if_pos hin]
    rw [show (enterS i m S) = (11, S) from hc0]
    rw [hin] at HI
    clear h hin hc0
    go_enter Try.func31, Try.ntmps31
    go_wp2_with (go_at_call 56; refine HI.out.mono ?_; rintro r w1 ⟨rfl, rfl⟩)
    go_ret
    exact ⟨rfl, HH.out, Keep.refl _ _⟩
  | true =>
    obtain ⟨k, ⟨⟨s, n, p0, e0⟩, x0⟩, rfl, hk, hs⟩ := inS_yes hin (by omega)
    obtain ⟨s', n', p', e', z, HZ⟩ : ∃ s' n' p' e' z, Hid (enter ⟨s, n, p0, e0⟩ m = (⟨s', n', p', e'⟩, z)) := ⟨(enter ⟨s, n, p0, e0⟩ m).1.st, _, _, _, _, rfl⟩
    have hc : changeS (fun c => enter c m) k S = if z = 0 then (0, ⟨S.l.set k ⟨⟨s', n', p', e'⟩, x0⟩, S.F⟩) else (z, S) := by
      unfold changeS; rw [if_neg (by rw [hin]; simp), Int.toNat_natCast, hs]; simp only [HZ.out]
    have hr : z = 0 → Right ⟨s', n', p', e'⟩ := fun hz => by
      have := enter_right (c := ⟨s, n, p0, e0⟩) (k := m)
      rw [HZ.out] at this
      exact this hz
    have HE := Lib.hid (fun W => renter_any s n p0 e0 m W)
    obtain ⟨d0, _, _, _, _, _⟩ := box3 h.hd
    obtain ⟨q0, q1, q2, q3⟩ := crow_cells h.rowc hs
    dsimp only at q0 q1 q2 q3
    have hkk : (k : Int) < (S.l.length : Int) := by omega
    have hn8 := h.n8
    have Hs := Lib.hid hs
    rw [hin] at HI
    have Hc := Lib.hid hc
    clear h hin hs hc
    by_cases hz : z = 0
    · have Hr := Lib.hid (hr hz)
      subst hz
      have Hc' := Lib.hid (show changeS (fun c => enter c m) k S = (0, ⟨S.l.set k ⟨⟨s', n', p', e'⟩, x0⟩, S.F⟩) by rw [Hc.out, if_pos rfl])
      rw [show (enterS k m S) = (0, ⟨S.l.set k ⟨⟨s', n', p', e'⟩, x0⟩, S.F⟩) from Hc'.out]
      clear hr
      go_enter Try.func31, Try.ntmps31
      go_wp2_with fail
      refine HI.out.mono ?_
      rintro r w1 ⟨rfl, rfl⟩
      go_wp2_with fail
      refine (HE.out _).mono ?_
      rintro r w2 ⟨rfl, hb2⟩
      rw [HZ.out]
      have hbw := hb2
      have HX := Lib.hid (show Below w2.heap.size w2 (w2.alloc (.cells #[.int .i64 s', .int .i64 n', .int .i64 p', .int .i64 e'] 43)) by go_grown)
      have HB2 := Lib.hid (below_only hb2 HX.out)
      have HH2 := Lib.hid (HH.out.below HB2.out)
      have HN := Lib.hid (row_new w2 #[.int .i64 s', .int .i64 n', .int .i64 p', .int .i64 e'] 43)
      clear hb2 q0 q1 q2 q3 d0
      go_wp2_with fail
      refine (become_yes B p bc bx g gq cc cx dc dx f e S bb k ⟨⟨s, n, p0, e0⟩, x0⟩ ⟨s', n', p', e'⟩ _ HH2.out Hs.out Hr.out).mono ?_
      rintro r w3 ⟨rfl, h3, k3⟩
      go_wp2_with fail
      go_ret
      exact ⟨rfl, h3, (keep_below HB2.out _).trans k3⟩
    · have hz' : (z == 0) = false := by simpa using hz
      have Hc' := Lib.hid (show changeS (fun c => enter c m) k S = (z, S) by rw [Hc.out, if_neg hz])
      rw [show (enterS k m S) = (z, S) from Hc'.out]
      have Hz := Lib.hid hz
      clear hr hz
      go_enter Try.func31, Try.ntmps31
      go_wp2_with fail
      refine HI.out.mono ?_
      rintro r w1 ⟨rfl, rfl⟩
      go_wp2_with fail
      refine (HE.out _).mono ?_
      rintro r w2 ⟨rfl, hb2⟩
      rw [HZ.out]
      have hbw := hb2
      have HX := Lib.hid (show Below w2.heap.size w2 (w2.alloc (.cells #[.int .i64 s', .int .i64 n', .int .i64 p', .int .i64 e'] 43)) by go_grown)
      have HB2 := Lib.hid (below_only hb2 HX.out)
      have HH2 := Lib.hid (HH.out.below HB2.out)
      clear hb2 q0 q1 q2 q3 d0
      go_wp2_with fail
      refine (become_no B p bc bx g gq cc cx dc dx f e S bb k ⟨s', n', p', e'⟩ z _ HH2.out Hz.out).mono ?_
      rintro r w3 ⟨rfl, hb3⟩
      have HB3 := Lib.hid (below_only HB2.out hb3)
      clear hb3
      go_wp2_with fail
      go_ret
      exact ⟨rfl, HH.out.below HB3.out, keep_below HB3.out _⟩

set_option maxHeartbeats 2000000 in
theorem rleaveS_any (B p bc bx g gq cc cx : Nat) (dc dx : List Value) (f e : Int) (S : Sco) (bb : List Bool) (i : Int) (w : World) (h : RSc B w p bc bx g gq cc cx dc dx f e S bb) :
    Calls Try.prog 27 #[.pointer (some ⟨p, 0, none⟩), .int .i64 i] w fun r w' => r = .returned (.tuple #[.bool (lastS i S), .int .i64 (leaveS i S).1]) ∧ RSc B w' p bc bx g gq cc cx dc dx f e (leaveS i S).2 bb ∧ Keep [bc] w w' := by
  have HI := Lib.hid (ris_any B p bc bx g gq cc cx dc dx f e S bb i w h)
  have HH := Lib.hid h
  cases hin : inS i 1 S with
  | false =>
    have hc0 : changeS leave i S = (11, S) := by unfold changeS; rw [if_pos hin]
    rw [show lastS i S = false by unfold lastS; rw [show leaveS i S = (11, S) from hc0]; rfl]
    rw [show (leaveS i S) = (11, S) from hc0]
    rw [hin] at HI
    clear h hin hc0
    go_enter Try.func27, Try.ntmps27
    go_wp2_with (go_at_call 56; refine HI.out.mono ?_; rintro r w1 ⟨rfl, rfl⟩)
    go_ret2
    exact ⟨rfl, HH.out, Keep.refl _ _⟩
  | true =>
    obtain ⟨k, ⟨⟨s, n, p0, e0⟩, x0⟩, rfl, hk, hs⟩ := inS_yes hin (by omega)
    obtain ⟨s', n', p', e', z, HZ⟩ : ∃ s' n' p' e' z, Hid (leave ⟨s, n, p0, e0⟩ = (⟨s', n', p', e'⟩, z)) := ⟨(leave ⟨s, n, p0, e0⟩).1.st, _, _, _, _, rfl⟩
    have hc : changeS leave k S = if z = 0 then (0, ⟨S.l.set k ⟨⟨s', n', p', e'⟩, x0⟩, S.F⟩) else (z, S) := by
      unfold changeS; rw [if_neg (by rw [hin]; simp), Int.toNat_natCast, hs]; simp only [HZ.out]
    have hr : z = 0 → Right ⟨s', n', p', e'⟩ := fun hz => by
      have := leave_right (c := ⟨s, n, p0, e0⟩)
      rw [HZ.out] at this
      exact this hz
    have HE := Lib.hid (fun W => rleave_any s n p0 e0 W)
    obtain ⟨d0, _, _, _, _, _⟩ := box3 h.hd
    obtain ⟨q0, q1, q2, q3⟩ := crow_cells h.rowc hs
    dsimp only at q0 q1 q2 q3
    have hkk : (k : Int) < (S.l.length : Int) := by omega
    have hn8 := h.n8
    have Hs := Lib.hid hs
    rw [hin] at HI
    have Hc := Lib.hid hc
    clear h hin hs hc
    by_cases hz : z = 0
    · have Hr := Lib.hid (hr hz)
      subst hz
      have Hc' := Lib.hid (show changeS leave k S = (0, ⟨S.l.set k ⟨⟨s', n', p', e'⟩, x0⟩, S.F⟩) by rw [Hc.out, if_pos rfl])
      have HLa := Lib.hid (show lastS k S = (s' == 3) by unfold lastS; rw [show leaveS k S = (0, ⟨S.l.set k ⟨⟨s', n', p', e'⟩, x0⟩, S.F⟩) from Hc'.out, if_pos rfl, Int.toNat_natCast]; simp only [List.getElem?_set, if_pos, hk])
      rw [HLa.out]
      rw [show (leaveS k S) = (0, ⟨S.l.set k ⟨⟨s', n', p', e'⟩, x0⟩, S.F⟩) from Hc'.out]
      clear hr
      go_enter Try.func27, Try.ntmps27
      go_wp2_with fail
      refine HI.out.mono ?_
      rintro r w1 ⟨rfl, rfl⟩
      go_wp2_with fail
      refine (HE.out _).mono ?_
      rintro r w2 ⟨rfl, hb2⟩
      rw [HZ.out]
      have hbw := hb2
      have HX := Lib.hid (show Below w2.heap.size w2 (w2.alloc (.cells #[.int .i64 s', .int .i64 n', .int .i64 p', .int .i64 e'] 43)) by go_grown)
      have HB2 := Lib.hid (below_only hb2 HX.out)
      have HH2 := Lib.hid (HH.out.below HB2.out)
      have HN := Lib.hid (row_new w2 #[.int .i64 s', .int .i64 n', .int .i64 p', .int .i64 e'] 43)
      clear hb2 q0 q1 q2 q3 d0
      go_wp2_with fail
      refine (become_yes B p bc bx g gq cc cx dc dx f e S bb k ⟨⟨s, n, p0, e0⟩, x0⟩ ⟨s', n', p', e'⟩ _ HH2.out Hs.out Hr.out).mono ?_
      rintro r w3 ⟨rfl, h3, k3⟩
      have HN3 := Lib.hid (k3.row HN.out (by simp; have := HH.out.lt; have := HB2.out.size; have hz2 := HX.out.size; have := (HH.out.below (show Below w1.heap.size w1 w2 from hbw)).lt; omega))
      obtain ⟨m0, m1, m2, m3, _, _, _, _⟩ := box4 HN3.out
      go_wp2_with fail
      go_ret2
      exact ⟨rfl, h3, (keep_below HB2.out _).trans k3⟩
    · have hz' : (z == 0) = false := by simpa using hz
      have Hc' := Lib.hid (show changeS leave k S = (z, S) by rw [Hc.out, if_neg hz])
      have HLa := Lib.hid (show lastS k S = false by unfold lastS; rw [show leaveS k S = (z, S) from Hc'.out, if_neg hz])
      rw [HLa.out]
      rw [show (leaveS k S) = (z, S) from Hc'.out]
      have Hz := Lib.hid hz
      clear hr hz
      go_enter Try.func27, Try.ntmps27
      go_wp2_with fail
      refine HI.out.mono ?_
      rintro r w1 ⟨rfl, rfl⟩
      go_wp2_with fail
      refine (HE.out _).mono ?_
      rintro r w2 ⟨rfl, hb2⟩
      rw [HZ.out]
      have hbw := hb2
      have HX := Lib.hid (show Below w2.heap.size w2 (w2.alloc (.cells #[.int .i64 s', .int .i64 n', .int .i64 p', .int .i64 e'] 43)) by go_grown)
      have HB2 := Lib.hid (below_only hb2 HX.out)
      have HH2 := Lib.hid (HH.out.below HB2.out)
      clear hb2 q0 q1 q2 q3 d0
      go_wp2_with fail
      refine (become_no B p bc bx g gq cc cx dc dx f e S bb k ⟨s', n', p', e'⟩ z _ HH2.out Hz.out).mono ?_
      rintro r w3 ⟨rfl, hb3⟩
      have HB3 := Lib.hid (below_only HB2.out hb3)
      clear hb3
      go_wp2_with fail
      go_ret2
      exact ⟨rfl, HH.out.below HB3.out, keep_below HB3.out _⟩

set_option maxHeartbeats 2000000 in
theorem ropenS_any (B p bc bx g gq cc cx : Nat) (dc dx : List Value) (f e : Int) (S : Sco) (bb : List Bool) (i : Int) (w : World) (h : RSc B w p bc bx g gq cc cx dc dx f e S bb) :
    Calls Try.prog 28 #[.pointer (some ⟨p, 0, none⟩), .int .i64 i] w fun r w' => r = .returned (.int .i64 (openS i S).1) ∧ RSc B w' p bc bx g gq cc cx dc dx f e (openS i S).2 bb ∧ Keep [bc] w w' := by
  have HI := Lib.hid (ris_any B p bc bx g gq cc cx dc dx f e S bb i w h)
  have HH := Lib.hid h
  cases hin : inS i 1 S with
  | false =>
    have hc0 : changeS openC i S = (11, S) := by unfold changeS; rw [if_pos hin]
    rw [show (openS i S) = (11, S) from hc0]
    rw [hin] at HI
    clear h hin hc0
    go_enter Try.func28, Try.ntmps28
    go_wp2_with (go_at_call 56; refine HI.out.mono ?_; rintro r w1 ⟨rfl, rfl⟩)
    go_ret
    exact ⟨rfl, HH.out, Keep.refl _ _⟩
  | true =>
    obtain ⟨k, ⟨⟨s, n, p0, e0⟩, x0⟩, rfl, hk, hs⟩ := inS_yes hin (by omega)
    obtain ⟨s', n', p', e', z, HZ⟩ : ∃ s' n' p' e' z, Hid (openC ⟨s, n, p0, e0⟩ = (⟨s', n', p', e'⟩, z)) := ⟨(openC ⟨s, n, p0, e0⟩).1.st, _, _, _, _, rfl⟩
    have hc : changeS openC k S = if z = 0 then (0, ⟨S.l.set k ⟨⟨s', n', p', e'⟩, x0⟩, S.F⟩) else (z, S) := by
      unfold changeS; rw [if_neg (by rw [hin]; simp), Int.toNat_natCast, hs]; simp only [HZ.out]
    have hr : z = 0 → Right ⟨s', n', p', e'⟩ := fun hz => by
      have := open_right (c := ⟨s, n, p0, e0⟩)
      rw [HZ.out] at this
      exact this hz
    have HE := Lib.hid (fun W => ropen_any s n p0 e0 W)
    obtain ⟨d0, _, _, _, _, _⟩ := box3 h.hd
    obtain ⟨q0, q1, q2, q3⟩ := crow_cells h.rowc hs
    dsimp only at q0 q1 q2 q3
    have hkk : (k : Int) < (S.l.length : Int) := by omega
    have hn8 := h.n8
    have Hs := Lib.hid hs
    rw [hin] at HI
    have Hc := Lib.hid hc
    clear h hin hs hc
    by_cases hz : z = 0
    · have Hr := Lib.hid (hr hz)
      subst hz
      have Hc' := Lib.hid (show changeS openC k S = (0, ⟨S.l.set k ⟨⟨s', n', p', e'⟩, x0⟩, S.F⟩) by rw [Hc.out, if_pos rfl])
      rw [show (openS k S) = (0, ⟨S.l.set k ⟨⟨s', n', p', e'⟩, x0⟩, S.F⟩) from Hc'.out]
      clear hr
      go_enter Try.func28, Try.ntmps28
      go_wp2_with fail
      refine HI.out.mono ?_
      rintro r w1 ⟨rfl, rfl⟩
      go_wp2_with fail
      refine (HE.out _).mono ?_
      rintro r w2 ⟨rfl, hb2⟩
      rw [HZ.out]
      have hbw := hb2
      have HX := Lib.hid (show Below w2.heap.size w2 (w2.alloc (.cells #[.int .i64 s', .int .i64 n', .int .i64 p', .int .i64 e'] 43)) by go_grown)
      have HB2 := Lib.hid (below_only hb2 HX.out)
      have HH2 := Lib.hid (HH.out.below HB2.out)
      have HN := Lib.hid (row_new w2 #[.int .i64 s', .int .i64 n', .int .i64 p', .int .i64 e'] 43)
      clear hb2 q0 q1 q2 q3 d0
      go_wp2_with fail
      refine (become_yes B p bc bx g gq cc cx dc dx f e S bb k ⟨⟨s, n, p0, e0⟩, x0⟩ ⟨s', n', p', e'⟩ _ HH2.out Hs.out Hr.out).mono ?_
      rintro r w3 ⟨rfl, h3, k3⟩
      go_wp2_with fail
      go_ret
      exact ⟨rfl, h3, (keep_below HB2.out _).trans k3⟩
    · have hz' : (z == 0) = false := by simpa using hz
      have Hc' := Lib.hid (show changeS openC k S = (z, S) by rw [Hc.out, if_neg hz])
      rw [show (openS k S) = (z, S) from Hc'.out]
      have Hz := Lib.hid hz
      clear hr hz
      go_enter Try.func28, Try.ntmps28
      go_wp2_with fail
      refine HI.out.mono ?_
      rintro r w1 ⟨rfl, rfl⟩
      go_wp2_with fail
      refine (HE.out _).mono ?_
      rintro r w2 ⟨rfl, hb2⟩
      rw [HZ.out]
      have hbw := hb2
      have HX := Lib.hid (show Below w2.heap.size w2 (w2.alloc (.cells #[.int .i64 s', .int .i64 n', .int .i64 p', .int .i64 e'] 43)) by go_grown)
      have HB2 := Lib.hid (below_only hb2 HX.out)
      have HH2 := Lib.hid (HH.out.below HB2.out)
      clear hb2 q0 q1 q2 q3 d0
      go_wp2_with fail
      refine (become_no B p bc bx g gq cc cx dc dx f e S bb k ⟨s', n', p', e'⟩ z _ HH2.out Hz.out).mono ?_
      rintro r w3 ⟨rfl, hb3⟩
      have HB3 := Lib.hid (below_only HB2.out hb3)
      clear hb3
      go_wp2_with fail
      go_ret
      exact ⟨rfl, HH.out.below HB3.out, keep_below HB3.out _⟩

set_option maxHeartbeats 2000000 in
theorem rholdS_any (B p bc bx g gq cc cx : Nat) (dc dx : List Value) (f e : Int) (S : Sco) (bb : List Bool) (i : Int) (w : World) (h : RSc B w p bc bx g gq cc cx dc dx f e S bb) :
    Calls Try.prog 30 #[.pointer (some ⟨p, 0, none⟩), .int .i64 i] w fun r w' => r = .returned (.int .i64 (holdS i S).1) ∧ RSc B w' p bc bx g gq cc cx dc dx f e (holdS i S).2 bb ∧ Keep [bc] w w' := by
  have HI := Lib.hid (ris_any B p bc bx g gq cc cx dc dx f e S bb i w h)
  have HH := Lib.hid h
  cases hin : inS i 1 S with
  | false =>
    have hc0 : changeS hold i S = (11, S) := by unfold changeS; rw [if_pos hin]
    rw [show (holdS i S) = (11, S) from hc0]
    rw [hin] at HI
    clear h hin hc0
    go_enter Try.func30, Try.ntmps30
    go_wp2_with (go_at_call 56; refine HI.out.mono ?_; rintro r w1 ⟨rfl, rfl⟩)
    go_ret
    exact ⟨rfl, HH.out, Keep.refl _ _⟩
  | true =>
    obtain ⟨k, ⟨⟨s, n, p0, e0⟩, x0⟩, rfl, hk, hs⟩ := inS_yes hin (by omega)
    obtain ⟨s', n', p', e', z, HZ⟩ : ∃ s' n' p' e' z, Hid (hold ⟨s, n, p0, e0⟩ = (⟨s', n', p', e'⟩, z)) := ⟨(hold ⟨s, n, p0, e0⟩).1.st, _, _, _, _, rfl⟩
    have hc : changeS hold k S = if z = 0 then (0, ⟨S.l.set k ⟨⟨s', n', p', e'⟩, x0⟩, S.F⟩) else (z, S) := by
      unfold changeS; rw [if_neg (by rw [hin]; simp), Int.toNat_natCast, hs]; simp only [HZ.out]
    have hr : z = 0 → Right ⟨s', n', p', e'⟩ := fun hz => by
      have := hold_right (c := ⟨s, n, p0, e0⟩)
      rw [HZ.out] at this
      exact this hz
    have HE := Lib.hid (fun W => rhold_any s n p0 e0 W)
    obtain ⟨d0, _, _, _, _, _⟩ := box3 h.hd
    obtain ⟨q0, q1, q2, q3⟩ := crow_cells h.rowc hs
    dsimp only at q0 q1 q2 q3
    have hkk : (k : Int) < (S.l.length : Int) := by omega
    have hn8 := h.n8
    have Hs := Lib.hid hs
    rw [hin] at HI
    have Hc := Lib.hid hc
    clear h hin hs hc
    by_cases hz : z = 0
    · have Hr := Lib.hid (hr hz)
      subst hz
      have Hc' := Lib.hid (show changeS hold k S = (0, ⟨S.l.set k ⟨⟨s', n', p', e'⟩, x0⟩, S.F⟩) by rw [Hc.out, if_pos rfl])
      rw [show (holdS k S) = (0, ⟨S.l.set k ⟨⟨s', n', p', e'⟩, x0⟩, S.F⟩) from Hc'.out]
      clear hr
      go_enter Try.func30, Try.ntmps30
      go_wp2_with fail
      refine HI.out.mono ?_
      rintro r w1 ⟨rfl, rfl⟩
      go_wp2_with fail
      refine (HE.out _).mono ?_
      rintro r w2 ⟨rfl, hb2⟩
      rw [HZ.out]
      have hbw := hb2
      have HX := Lib.hid (show Below w2.heap.size w2 (w2.alloc (.cells #[.int .i64 s', .int .i64 n', .int .i64 p', .int .i64 e'] 43)) by go_grown)
      have HB2 := Lib.hid (below_only hb2 HX.out)
      have HH2 := Lib.hid (HH.out.below HB2.out)
      have HN := Lib.hid (row_new w2 #[.int .i64 s', .int .i64 n', .int .i64 p', .int .i64 e'] 43)
      clear hb2 q0 q1 q2 q3 d0
      go_wp2_with fail
      refine (become_yes B p bc bx g gq cc cx dc dx f e S bb k ⟨⟨s, n, p0, e0⟩, x0⟩ ⟨s', n', p', e'⟩ _ HH2.out Hs.out Hr.out).mono ?_
      rintro r w3 ⟨rfl, h3, k3⟩
      go_wp2_with fail
      go_ret
      exact ⟨rfl, h3, (keep_below HB2.out _).trans k3⟩
    · have hz' : (z == 0) = false := by simpa using hz
      have Hc' := Lib.hid (show changeS hold k S = (z, S) by rw [Hc.out, if_neg hz])
      rw [show (holdS k S) = (z, S) from Hc'.out]
      have Hz := Lib.hid hz
      clear hr hz
      go_enter Try.func30, Try.ntmps30
      go_wp2_with fail
      refine HI.out.mono ?_
      rintro r w1 ⟨rfl, rfl⟩
      go_wp2_with fail
      refine (HE.out _).mono ?_
      rintro r w2 ⟨rfl, hb2⟩
      rw [HZ.out]
      have hbw := hb2
      have HX := Lib.hid (show Below w2.heap.size w2 (w2.alloc (.cells #[.int .i64 s', .int .i64 n', .int .i64 p', .int .i64 e'] 43)) by go_grown)
      have HB2 := Lib.hid (below_only hb2 HX.out)
      have HH2 := Lib.hid (HH.out.below HB2.out)
      clear hb2 q0 q1 q2 q3 d0
      go_wp2_with fail
      refine (become_no B p bc bx g gq cc cx dc dx f e S bb k ⟨s', n', p', e'⟩ z _ HH2.out Hz.out).mono ?_
      rintro r w3 ⟨rfl, hb3⟩
      have HB3 := Lib.hid (below_only HB2.out hb3)
      clear hb3
      go_wp2_with fail
      go_ret
      exact ⟨rfl, HH.out.below HB3.out, keep_below HB3.out _⟩

end Go.Proofs.Ytcicpfhbpcdjcaa
