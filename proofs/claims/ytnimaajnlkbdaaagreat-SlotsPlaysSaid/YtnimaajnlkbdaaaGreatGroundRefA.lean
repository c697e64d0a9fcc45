/- The walks of the document's ground: New, set, Extents. -/
import Derived.Test.YtnimaajnlkbdaaaGreatMH
import Derived.Deep.RegionLaw
namespace Go.Proofs.YtnimaajnlkbdaaaGreat
open Go.RowKit

abbrev boolsV (b : List Bool) : List Value := b.map Value.bool
/-- the document's ground in memory -/
structure RG (B : Nat) (w : World) (p q : Nat) (f : Int) (b : List Bool) : Prop where
 box : w.heap[p]? = some (.cells #[.int .i64 f, .slice (some ⟨q, 0, none⟩) b.length b.length] 168 (0, 0))
 row : w.heap[q]? = some (.cells (boolsV b).toArray 4 (0, 0))
 ne : q ≠ p
 low : B ≤ p
 lowq : B ≤ q
 f0 : 0 ≤ f
 f1 : f + 8 * (b.length : Int) ≤ 131072

section
variable {B p q : Nat} {w w' : World} {f : Int} {b : List Bool}
theorem RG.kept {S : List Nat} (h : RG B w p q f b) (k : Keep S w w') (hp : p ∉ S) (hq : q ∉ S) : RG B w' p q f b := { h with box := k.row h.box hp, row := k.row h.row hq }
theorem RG.below (h : RG B w p q f b) (hb : Below w.heap.size w w') : RG B w' p q f b := { h with box := row_below h.box hb, row := row_below h.row hb }
theorem RG.lt (h : RG B w p q f b) : p < w.heap.size ∧ q < w.heap.size := ⟨lt_of_heap h.box, lt_of_heap h.row⟩
theorem RG.size (h : RG B w p q f b) : b.length ≤ 16384 := by have := h.f0; have := h.f1; omega
end

theorem bools_cell {w : World} {q : Nat} {b : List Bool} (h : w.heap[q]? = some (.cells (boolsV b).toArray 4 (0, 0))) (k : Nat) (v : Bool) (hv : b[k]? = some v) : w.cell? ⟨q, k, none⟩ = some (.bool v) := by
 rw [row_cell h]
 simp [boolsV, hv]
theorem bools_set {b : List Bool} (k : Nat) (v : Bool) : ((boolsV b).toArray.setIfInBounds k (.bool v)) = (boolsV (b.set k v)).toArray := by
 apply Array.ext'
 simp [boolsV, List.map_set]
theorem RG.store {B p q : Nat} {w : World} {f : Int} {b : List Bool} (h : RG B w p q f b) (k : Nat) (v : Bool) : RG B (w.setCell ⟨q, k, none⟩ (.bool v)).drew p q f (b.set k v) := by
 have h1 : (w.setCell ⟨q, k, none⟩ (.bool v)).heap[p]? = w.heap[p]? := Below.heap_setCell _ _ _ _ (fun e => h.ne e.symm)
 have h2 := row_set (i := k) h.row (.bool v)
 rw [bools_set] at h2
 exact ⟨by rw [List.length_set]; exact (show (w.setCell ⟨q, k, none⟩ (.bool v)).drew.heap[p]? = _ from h1.trans h.box), h2, h.ne, h.low, h.lowq, h.f0, by rw [List.length_set]; exact h.f1⟩

set_option maxRecDepth 100000 in
set_option maxHeartbeats 1000000 in
theorem set_any (B p q : Nat) (f : Int) (b : List Bool) (v : Bool) (a n : Int) (i m : Nat) (w : World) (h : RG B w p q f b) (ha : a = f + 8 * (i : Int)) (hn : n = 8 * (m : Int)) (him : i + m ≤ b.length) :
  Calls Tryz.prog 119 #[.pointer (some ⟨p, 0, none⟩), .int .i64 a, .int .i64 n, .bool v] w fun r w' => r = .returned (.tuple #[]) ∧ RG B w' p q f (setB b i v m) ∧ Keep [q] w w' := by
 have hsz := h.size
 have f0 := h.f0
 have f1 := h.f1
 have hH := Lib.hid h
 have hlt := h.lt.2
 have hne := h.ne
 clear h
 have e1 : n.tdiv 8 = m := by rw [hn]; rw [Int.tdiv_eq_ediv_of_nonneg (by omega)]; omega
 have e2 : (a - f).tdiv 8 = i := by rw [ha, Int.tdiv_eq_ediv_of_nonneg (by omega)]; omega
 have n1 : -9223372036854775808 ≤ a - f := by omega
 have n2 : a - f ≤ 9223372036854775807 := by omega
 have e2' : (a - f) / 8 = i := by rw [ha]; omega
 have e1' : n / 8 = m := by rw [hn]; omega
 have n3 : 0 ≤ a - f := by omega
 have n4 : 0 ≤ n := by omega
 clear ha hn
 go_enter Tryz.func119, Tryz.ntmps119
 go_wp2
 go_loopw [8] (fun t wr => ∃ k : Nat, k ≤ m ∧ t = .int .i64 k ∧ RG B wr p q f (setB b i v k) ∧ Keep [q] w wr) (fun t _ => m - (intOf t).toNat)
 case atStart => exact ⟨0, Nat.zero_le _, rfl, hH.out, Keep.refl _ _⟩
 case round =>
  obtain ⟨k, hk, rfl, hR, hK⟩ := hrel
  obtain ⟨p0, p1, p0f, p1f⟩ := box2 hR.box
  rw [setB_len] at p1
  have HR := Lib.hid hR
  have HK := Lib.hid hK
  clear hR hK
  by_cases hlt : k < m
  ·obtain ⟨old, hold⟩ : ∃ old, (setB b i v k)[i + k]? = some old := ⟨_, List.getElem?_eq_getElem (by rw [setB_len]; omega)⟩
   have c0 := bools_cell HR.out.row (i + k) old hold
   have c0f : wr.frozen? ⟨q, i + k, none⟩ = false := row_frozen HR.out.row _
   have e3 : ((i : Int) + (k : Int)).toNat = i + k := by omega
   have e4 : 0 ≤ (i : Int) + (k : Int) := by omega
   have e5 : (i : Int) + (k : Int) < (b.length : Int) := by omega
   have z1 := HR.out.lt.1
   have z2 := HR.out.lt.2
   have e6 : i + k < b.length := by omega
   clear hold
   go_wp2
   go_region
   go_wp2
   go_roundw
   case rel =>
    exact ⟨k + 1, hlt, by go_num, HR.out.store (i + k) v, (HK.out.setCell (.inl (by simp)) _).drew⟩
   case measure => simp [intOf]; omega
  ·obtain rfl : k = m := by omega
   go_wp2
   go_end0
   exact ⟨rfl, HR.out, HK.out⟩

set_option maxRecDepth 100000 in
set_option maxHeartbeats 2000000 in
theorem extents_any (B p q : Nat) (f : Int) (b : List Bool) (w : World) (h : RG B w p q f b) (h8 : f % 8 = 0) :
  Calls Tryz.prog 118 #[.pointer (some ⟨p, 0, none⟩)] w fun r w' => ∃ v, r = .returned v ∧ NewExts w (runs f b b.length) v w' := by
 have hsz := h.size
 have f0 := h.f0
 have f1 := h.f1
 have hH := Lib.hid h
 have H8 := Lib.hid h8
 clear h h8
 obtain ⟨i0, hi0, hz0, hz1, hz2⟩ := info_parts infoExt
 go_enter Tryz.func118, Tryz.ntmps118
 go_wp2
 go_loopw [3, 4] (fun s t wr => ∃ (k : Nat) (A1 : Option Addr) (c1 : Nat), k ≤ b.length ∧ t = .int .i64 k ∧ s = .slice A1 (runs f b k).length c1 ∧
  wr.ownsRow w.heap.size 121 2 (.slice A1 (runs f b k).length c1) (runs f b k).length ((runs f b k).flatMap extCells) ∧ Below w.heap.size w wr) (fun _ t _ => b.length - (intOf t).toNat)
 case atStart => exact ⟨0, _, 0, Nat.zero_le _, rfl, rfl, own_empty (Nat.le_refl _) (row_new _ _ _), by go_grown⟩
 case round =>
  obtain ⟨k, A1, c1, hk, rfl, rfl, hown, hB⟩ := hrel
  have HR := Lib.hid (hH.out.below hB)
  have hrl : (runs f b k).length ≤ 131072 := by
   have h1 := (runs_can (f := f) (b := b) (k := k) H8.out (Int.le_refl _)).1.len (by omega)
   omega
  obtain ⟨p0, p1, p0f, p1f⟩ := box2 HR.out.box
  obtain ⟨o, Ho⟩ : ∃ o, Hid (runs f b k = o) := ⟨_, rfl⟩
  rw [Ho.out] at hown hrl ⊢
  have Hown := Lib.hid hown
  have HB := Lib.hid hB
  have hws : w.heap.size ≤ wr.heap.size := hB.size
  clear hown hB
  by_cases hlt : k < b.length
  ·cases hv : b[k]? with
   | none => simp at hv; omega
   | some v =>
    have c0 := bools_cell HR.out.row k v hv
    have c0f : wr.frozen? ⟨q, k, none⟩ = false := row_frozen HR.out.row _
    cases v with
    | false =>
     have Hv := Lib.hid hv
     clear hv
     go_wp2
     go_roundw
     case rel =>
      refine ⟨k + 1, A1, c1, hlt, by go_num, ?_, ?_, HB.out⟩
      ·rw [runs_no Hv.out, Ho.out]
      ·rw [runs_no Hv.out, Ho.out]
       exact Hown.out
     case measure => simp [intOf]; omega
    | true =>
     have Hv := Lib.hid hv
     have d2 : 0 ≤ (o.length : Int) := by omega
     have d3 : (o.length : Int) < (o.length : Int) + 1 := by omega
     have n1 : f + 8 * (k : Int) ≤ 131072 := by omega
     have n0 : -9223372036854775808 ≤ f + 8 * (k : Int) := by omega
     clear hv
     by_cases h0 : k = 0
     ·subst h0
      have Hn := Lib.hid (show runs f b (0 + 1) = o ++ [(f, 8)] by rw [runs_new H8.out Hv.out (.inl rfl), Ho.out]; simp)
      go_wp2_with (at_builtin; refine wpList_append_any _ rfl (.tmp 36) (.tmp 45) _ (by rfl) w.heap.size 121 i0 _ 2 16 Tryz.underlying163 hi0 hz0 hz1 hz2 rfl (by omega) _ o.length (o.flatMap extCells) (by rfl) (own_below Hown.out (by go_grown)) (some ⟨wr.heap.size, 0, none⟩) 1 1 (extCells (f, 0)) (by rfl) rfl (cells_two (by simp [go_sem]) (by simp [go_sem])) (extCells_one _) (by simp only [maxLen]; omega) (by omega) (by simp; omega) ?_; intro v11 w11 hown11 hg11 hat11; obtain ⟨A11, c11, rfl, -, -, -⟩ := own_slice hown11; rw [show o.flatMap extCells ++ extCells (f, 0) = (o ++ [(f, 0)]).flatMap extCells by simp] at hown11; obtain ⟨g, cur, rfl, hg, hBg, hnc, hcm, hcs, hcur, hcy⟩ := own_ext hown11 (by omega); obtain ⟨y0, y1⟩ := hcy o.length (f, 0) (by omega) (by simp); have y1f : w11.frozen? ⟨g, o.length * 2 + 1, none⟩ = false := row_frozen hg _; have hgw := lt_of_heap hg; have Hg := Lib.hid hg; have Hcs := Lib.hid hcs; have Hcur := Lib.hid hcur; have Hcm := Lib.hid hcm; have B11 := Lib.hid (Below.grown (HB.out.alloc hws _) hg11 (by simp; omega) (own_ge Hown.out)); clear hown11 hg11 hat11 hg hcs hcur hcy hcm)
      go_roundw
      case rel =>
       refine ⟨0 + 1, some ⟨g, 0, none⟩, c11, hlt, by go_num, ?_, ?_, ?_⟩
       ·rw [Hn.out, List.length_append, List.length_singleton]
       ·rw [Hn.out, List.length_append, List.length_singleton]
        exact own_set2 8 (row_set Hg.out _) hBg rfl hnc Hcs.out Hcm.out Hcur.out
       ·exact B11.out.setCell hBg _
      case measure => simp [intOf]; omega
     ·obtain ⟨k, rfl⟩ : ∃ j, k = j + 1 := ⟨k - 1, by omega⟩
      have e0 : (((k + 1 : Nat) : Int) == 0) = false := by rw [beq_eq_false_iff_ne]; omega
      have e1 : ((k : Int) + 1 == 0) = false := by rw [beq_eq_false_iff_ne]; omega
      have e2 : (k : Int) < (b.length : Int) := by omega
      cases hu : b[k]? with
      | none => simp at hu; omega
      | some u =>
       have cu := bools_cell HR.out.row k u hu
       cases u with
       | false =>
        have Hn := Lib.hid (show runs f b (k + 1 + 1) = o ++ [(f + 8 * ((k : Int) + 1), 8)] by rw [runs_new H8.out Hv.out (.inr hu), Ho.out]; rfl)
        clear hu
        go_wp2_with (at_builtin; refine wpList_append_any _ rfl (.tmp 36) (.tmp 45) _ (by rfl) w.heap.size 121 i0 _ 2 16 Tryz.underlying163 hi0 hz0 hz1 hz2 rfl (by omega) _ o.length (o.flatMap extCells) (by rfl) (own_below Hown.out (by go_grown)) (some ⟨wr.heap.size, 0, none⟩) 1 1 (extCells (f + 8 * ((k : Int) + 1), 0)) (by rfl) rfl (cells_two (by simp [go_sem]) (by simp [go_sem])) (extCells_one _) (by simp only [maxLen]; omega) (by omega) (by simp; omega) ?_; intro v11 w11 hown11 hg11 hat11; obtain ⟨A11, c11, rfl, -, -, -⟩ := own_slice hown11; rw [show o.flatMap extCells ++ extCells (f + 8 * ((k : Int) + 1), 0) = (o ++ [(f + 8 * ((k : Int) + 1), 0)]).flatMap extCells by simp] at hown11; obtain ⟨g, cur, rfl, hg, hBg, hnc, hcm, hcs, hcur, hcy⟩ := own_ext hown11 (by omega); obtain ⟨y0, y1⟩ := hcy o.length (f + 8 * ((k : Int) + 1), 0) (by omega) (by simp); have y1f : w11.frozen? ⟨g, o.length * 2 + 1, none⟩ = false := row_frozen hg _; have hgw := lt_of_heap hg; have Hg := Lib.hid hg; have Hcs := Lib.hid hcs; have Hcur := Lib.hid hcur; have Hcm := Lib.hid hcm; have B11 := Lib.hid (Below.grown (HB.out.alloc hws _) hg11 (by simp; omega) (own_ge Hown.out)); clear hown11 hg11 hat11 hg hcs hcur hcy hcm)
        go_roundw
        case rel =>
         refine ⟨k + 1 + 1, some ⟨g, 0, none⟩, c11, hlt, by go_num, ?_, ?_, ?_⟩
         ·rw [Hn.out, List.length_append, List.length_singleton]
         ·rw [Hn.out, List.length_append, List.length_singleton]
          exact own_set2 8 (row_set Hg.out _) hBg rfl hnc Hcs.out Hcm.out Hcur.out
         ·exact B11.out.setCell hBg _
        case measure => simp [intOf]; omega
       | true =>
        obtain ⟨o', y, h1, h2⟩ := runs_old (f := f) Hv.out (by omega) hu
        rw [Ho.out] at h1
        subst h1
        have Hn := Lib.hid h2
        have Hown' := Hown.out
        rw [List.length_append, List.length_singleton] at Hown' hrl ⊢
        obtain ⟨g, cur, rfl, hg, hBg, hnc, hcm, hcs, hcur, hcy⟩ := own_ext Hown' (by omega)
        obtain ⟨y0, y1⟩ := hcy o'.length y (by omega) (by simp)
        have y1f : wr.frozen? ⟨g, o'.length * 2 + 1, none⟩ = false := row_frozen hg _
        have hgw := lt_of_heap hg
        have hy := (runs_can (f := f) (b := b) (k := k + 1 + 1) H8.out (Int.le_refl _)).1.mem (x := (y.1, y.2 + 8)) (by rw [h2]; simp)
        simp only at hy
        have n2 : -9223372036854775808 ≤ y.2 + 8 := by omega
        have n3 : y.2 + 8 ≤ 9223372036854775807 := by omega
        have d4 : 0 ≤ (o'.length : Int) := by omega
        have d5 : (o'.length : Int) < (o'.length : Int) + 1 := by omega
        have Hg := Lib.hid hg
        have Hcs := Lib.hid hcs
        have Hcur := Lib.hid hcur
        have Hcm := Lib.hid hcm
        clear hu h2 Hown hy hg hcs hcur hcy hcm Hown'
        go_wp2
        go_roundw
        case rel =>
         refine ⟨k + 1 + 1, some ⟨g, 0, none⟩, c1, hlt, by go_num, ?_, ?_, ?_⟩
         ·rw [Hn.out, List.length_append, List.length_singleton]
         ·rw [Hn.out, List.length_append, List.length_singleton]
          exact own_set2 (y.2 + 8) (row_set Hg.out _) hBg rfl hnc Hcs.out Hcm.out Hcur.out
         ·exact HB.out.setCell hBg _
        case measure => simp [intOf]; omega
  ·obtain rfl : k = b.length := by omega
   go_wp2
   go_ret
   exact ⟨_, rfl, newRow_of_own Hown.out (by rw [Ho.out]) (by rw [Ho.out]) (Nat.le_refl _) HB.out⟩

end Go.Proofs.YtnimaajnlkbdaaaGreat
