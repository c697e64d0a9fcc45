/- The walks of the document's ground: New, set, Extents. The walks of the document's ground: New, Carve, Give. The ground, as layers above name it. -/
import Derived.Test.YtbijaloeilnjoaaGreatMH
import Derived.Deep.RegionLaw
import Derived.Laws.MakeOwn
namespace Go.Proofs.YtbijaloeilnjoaaGreat
open Go.RowKit

abbrev boolsV (b : List Bool) : List Value := b.map Value.bool
/-- the document's ground in memory -/
structure RG (B : Nat) (w : World) (p q : Nat) (f : Int) (b : List Bool) : Prop where
 box : w.heap[p]? = some (.cells #[.int .i64 f, .slice (some ⟨q, 0, none⟩) b.length b.length] 168 (0, 0))
 row : w.heap[q]? = some (.cells (boolsV b).toArray 4 (0, 0))
 ne : q ≠ p
 low : B ≤ p
 lowq : B ≤ q
 f0 : 0 ≤ f
 f1 : f + 8 * (b.length : Int) ≤ 131072

section
variable {B p q : Nat} {w w' : World} {f : Int} {b : List Bool}
theorem RG.kept {S : List Nat} (h : RG B w p q f b) (k : Keep S w w') (hp : p ∉ S) (hq : q ∉ S) : RG B w' p q f b := { h with box := k.row h.box hp, row := k.row h.row hq }
theorem RG.below (h : RG B w p q f b) (hb : Below w.heap.size w w') : RG B w' p q f b := { h with box := row_below h.box hb, row := row_below h.row hb }
theorem RG.lt (h : RG B w p q f b) : p < w.heap.size ∧ q < w.heap.size := ⟨lt_of_heap h.box, lt_of_heap h.row⟩
theorem RG.size (h : RG B w p q f b) : b.length ≤ 16384 := by have := h.f0; have := h.f1; omega
end

theorem bools_cell {w : World} {q : Nat} {b : List Bool} (h : w.heap[q]? = some (.cells (boolsV b).toArray 4 (0, 0))) (k : Nat) (v : Bool) (hv : b[k]? = some v) : w.cell? ⟨q, k, none⟩ = some (.bool v) := by
 rw [row_cell h]
 simp [boolsV, hv]
theorem bools_set {b : List Bool} (k : Nat) (v : Bool) : ((boolsV b).toArray.setIfInBounds k (.bool v)) = (boolsV (b.set k v)).toArray := by
 apply Array.ext'
 simp [boolsV, List.map_set]
theorem RG.store {B p q : Nat} {w : World} {f : Int} {b : List Bool} (h : RG B w p q f b) (k : Nat) (v : Bool) : RG B (w.setCell ⟨q, k, none⟩ (.bool v)).drew p q f (b.set k v) := by
 have h1 : (w.setCell ⟨q, k, none⟩ (.bool v)).heap[p]? = w.heap[p]? := Below.heap_setCell _ _ _ _ (fun e => h.ne e.symm)
 have h2 := row_set (i := k) h.row (.bool v)
 rw [bools_set] at h2
 exact ⟨by rw [List.length_set]; exact (show (w.setCell ⟨q, k, none⟩ (.bool v)).drew.heap[p]? = _ from h1.trans h.box), h2, h.ne, h.low, h.lowq, h.f0, by rw [List.length_set]; exact h.f1⟩

set_option maxRecDepth 100000 in
set_option maxHeartbeats 1000000 in
theorem set_any (B p q : Nat) (f : Int) (b : List Bool) (v : Bool) (a n : Int) (i m : Nat) (w : World) (h : RG B w p q f b) (ha : a = f + 8 * (i : Int)) (hn : n = 8 * (m : Int)) (him : i + m ≤ b.length) :
  Calls Tryz.prog 145 #[.pointer (some ⟨p, 0, none⟩), .int .i64 a, .int .i64 n, .bool v] w fun r w' => r = .returned (.tuple #[]) ∧ RG B w' p q f (setB b i v m) ∧ Keep [q] w w' := by
 have hsz := h.size
 have f0 := h.f0
 have f1 := h.f1
 have hH := Lib.hid h
 have hlt := h.lt.2
 have hne := h.ne
 clear h
 have e1 : n.tdiv 8 = m := by rw [hn]; rw [Int.tdiv_eq_ediv_of_nonneg (by omega)]; omega
 have e2 : (a - f).tdiv 8 = i := by rw [ha, Int.tdiv_eq_ediv_of_nonneg (by omega)]; omega
 have n1 : -9223372036854775808 ≤ a - f := by omega
 have n2 : a - f ≤ 9223372036854775807 := by omega
 have e2' : (a - f) / 8 = i := by rw [ha]; omega
 have e1' : n / 8 = m := by rw [hn]; omega
 have n3 : 0 ≤ a - f := by omega
 have n4 : 0 ≤ n := by omega
 clear ha hn
 go_enter Tryz.func145, Tryz.ntmps145
 go_wp2
 go_loopw [8] (fun t wr => ∃ k : Nat, k ≤ m ∧ t = .int .i64 k ∧ RG B wr p q f (setB b i v k) ∧ Keep [q] w wr) (fun t _ => m - (intOf t).toNat)
 case atStart => exact ⟨0, Nat.zero_le _, rfl, hH.out, Keep.refl _ _⟩
 case round =>
  obtain ⟨k, hk, rfl, hR, hK⟩ := hrel
  obtain ⟨p0, p1, p0f, p1f⟩ := box2 hR.box
  rw [setB_len] at p1
  have HR := Lib.hid hR
  have HK := Lib.hid hK
  clear hR hK
  by_cases hlt : k < m
  ·obtain ⟨old, hold⟩ : ∃ old, (setB b i v k)[i + k]? = some old := ⟨_, List.getElem?_eq_getElem (by rw [setB_len]; omega)⟩
   have c0 := bools_cell HR.out.row (i + k) old hold
   have c0f : wr.frozen? ⟨q, i + k, none⟩ = false := row_frozen HR.out.row _
   have e3 : ((i : Int) + (k : Int)).toNat = i + k := by omega
   have e4 : 0 ≤ (i : Int) + (k : Int) := by omega
   have e5 : (i : Int) + (k : Int) < (b.length : Int) := by omega
   have z1 := HR.out.lt.1
   have z2 := HR.out.lt.2
   have e6 : i + k < b.length := by omega
   clear hold
   go_wp2
   go_region
   go_wp2
   go_roundw
   case rel =>
    exact ⟨k + 1, hlt, by go_num, HR.out.store (i + k) v, (HK.out.setCell (.inl (by simp)) _).drew⟩
   case measure => simp [intOf]; omega
  ·obtain rfl : k = m := by omega
   go_wp2
   go_end0
   exact ⟨rfl, HR.out, HK.out⟩

set_option maxRecDepth 100000 in
set_option maxHeartbeats 2000000 in
theorem extents_any (B p q : Nat) (f : Int) (b : List Bool) (w : World) (h : RG B w p q f b) (h8 : f % 8 = 0) :
  Calls Tryz.prog 144 #[.pointer (some ⟨p, 0, none⟩)] w fun r w' => ∃ v, r = .returned v ∧ NewExts w (runs f b b.length) v w' := by
 have hsz := h.size
 have f0 := h.f0
 have f1 := h.f1
 have hH := Lib.hid h
 have H8 := Lib.hid h8
 clear h h8
 obtain ⟨i0, hi0, hz0, hz1, hz2⟩ := info_parts infoExt
 go_enter Tryz.func144, Tryz.ntmps144
 go_wp2
 go_loopw [3, 4] (fun s t wr => ∃ (k : Nat) (A1 : Option Addr) (c1 : Nat), k ≤ b.length ∧ t = .int .i64 k ∧ s = .slice A1 (runs f b k).length c1 ∧
  wr.ownsRow w.heap.size 124 2 (.slice A1 (runs f b k).length c1) (runs f b k).length ((runs f b k).flatMap extCells) ∧ Below w.heap.size w wr) (fun _ t _ => b.length - (intOf t).toNat)
 case atStart => exact ⟨0, _, 0, Nat.zero_le _, rfl, rfl, own_empty (Nat.le_refl _) (row_new _ _ _), by go_grown⟩
 case round =>
  obtain ⟨k, A1, c1, hk, rfl, rfl, hown, hB⟩ := hrel
  have HR := Lib.hid (hH.out.below hB)
  have hrl : (runs f b k).length ≤ 131072 := by
   have h1 := (runs_can (f := f) (b := b) (k := k) H8.out (Int.le_refl _)).1.len (by omega)
   omega
  obtain ⟨p0, p1, p0f, p1f⟩ := box2 HR.out.box
  obtain ⟨o, Ho⟩ : ∃ o, Hid (runs f b k = o) := ⟨_, rfl⟩
  rw [Ho.out] at hown hrl ⊢
  have Hown := Lib.hid hown
  have HB := Lib.hid hB
  have hws : w.heap.size ≤ wr.heap.size := hB.size
  clear hown hB
  by_cases hlt : k < b.length
  ·cases hv : b[k]? with
   | none => simp at hv; omega
   | some v =>
    have c0 := bools_cell HR.out.row k v hv
    have c0f : wr.frozen? ⟨q, k, none⟩ = false := row_frozen HR.out.row _
    cases v with
    | false =>
     have Hv := Lib.hid hv
     clear hv
     go_wp2
     go_roundw
     case rel =>
      refine ⟨k + 1, A1, c1, hlt, by go_num, ?_, ?_, HB.out⟩
      ·rw [runs_no Hv.out, Ho.out]
      ·rw [runs_no Hv.out, Ho.out]
       exact Hown.out
     case measure => simp [intOf]; omega
    | true =>
     have Hv := Lib.hid hv
     have d2 : 0 ≤ (o.length : Int) := by omega
     have d3 : (o.length : Int) < (o.length : Int) + 1 := by omega
     have n1 : f + 8 * (k : Int) ≤ 131072 := by omega
     have n0 : -9223372036854775808 ≤ f + 8 * (k : Int) := by omega
     clear hv
     by_cases h0 : k = 0
     ·subst h0
      have Hn := Lib.hid (show runs f b (0 + 1) = o ++ [(f, 8)] by rw [runs_new H8.out Hv.out (.inl rfl), Ho.out]; simp)
      go_wp2_with (at_builtin; refine wpList_append_any _ rfl (.tmp 36) (.tmp 45) _ (by rfl) w.heap.size 124 i0 _ 2 16 Tryz.underlying163 hi0 hz0 hz1 hz2 rfl (by omega) _ o.length (o.flatMap extCells) (by rfl) (own_below Hown.out (by go_grown)) (some ⟨wr.heap.size, 0, none⟩) 1 1 (extCells (f, 0)) (by rfl) rfl (cells_two (by simp [go_sem]) (by simp [go_sem])) (extCells_one _) (by simp only [maxLen]; omega) (by omega) (by simp; omega) ?_; intro v11 w11 hown11 hg11 hat11; obtain ⟨A11, c11, rfl, -, -, -⟩ := own_slice hown11; rw [show o.flatMap extCells ++ extCells (f, 0) = (o ++ [(f, 0)]).flatMap extCells by simp] at hown11; obtain ⟨g, cur, rfl, hg, hBg, hnc, hcm, hcs, hcur, hcy⟩ := own_ext hown11 (by omega); obtain ⟨y0, y1⟩ := hcy o.length (f, 0) (by omega) (by simp); have y1f : w11.frozen? ⟨g, o.length * 2 + 1, none⟩ = false := row_frozen hg _; have hgw := lt_of_heap hg; have Hg := Lib.hid hg; have Hcs := Lib.hid hcs; have Hcur := Lib.hid hcur; have Hcm := Lib.hid hcm; have B11 := Lib.hid (Below.grown (HB.out.alloc hws _) hg11 (by simp; omega) (own_ge Hown.out)); clear hown11 hg11 hat11 hg hcs hcur hcy hcm)
      go_roundw
      case rel =>
       refine ⟨0 + 1, some ⟨g, 0, none⟩, c11, hlt, by go_num, ?_, ?_, ?_⟩
       ·rw [Hn.out, List.length_append, List.length_singleton]
       ·rw [Hn.out, List.length_append, List.length_singleton]
        exact own_set2 8 (row_set Hg.out _) hBg rfl hnc Hcs.out Hcm.out Hcur.out
       ·exact B11.out.setCell hBg _
      case measure => simp [intOf]; omega
     ·obtain ⟨k, rfl⟩ : ∃ j, k = j + 1 := ⟨k - 1, by omega⟩
      have e0 : (((k + 1 : Nat) : Int) == 0) = false := by rw [beq_eq_false_iff_ne]; omega
      have e1 : ((k : Int) + 1 == 0) = false := by rw [beq_eq_false_iff_ne]; omega
      have e2 : (k : Int) < (b.length : Int) := by omega
      cases hu : b[k]? with
      | none => simp at hu; omega
      | some u =>
       have cu := bools_cell HR.out.row k u hu
       cases u with
       | false =>
        have Hn := Lib.hid (show runs f b (k + 1 + 1) = o ++ [(f + 8 * ((k : Int) + 1), 8)] by rw [runs_new H8.out Hv.out (.inr hu), Ho.out]; rfl)
        clear hu
        go_wp2_with (at_builtin; refine wpList_append_any _ rfl (.tmp 36) (.tmp 45) _ (by rfl) w.heap.size 124 i0 _ 2 16 Tryz.underlying163 hi0 hz0 hz1 hz2 rfl (by omega) _ o.length (o.flatMap extCells) (by rfl) (own_below Hown.out (by go_grown)) (some ⟨wr.heap.size, 0, none⟩) 1 1 (extCells (f + 8 * ((k : Int) + 1), 0)) (by rfl) rfl (cells_two (by simp [go_sem]) (by simp [go_sem])) (extCells_one _) (by simp only [maxLen]; omega) (by omega) (by simp; omega) ?_; intro v11 w11 hown11 hg11 hat11; obtain ⟨A11, c11, rfl, -, -, -⟩ := own_slice hown11; rw [show o.flatMap extCells ++ extCells (f + 8 * ((k : Int) + 1), 0) = (o ++ [(f + 8 * ((k : Int) + 1), 0)]).flatMap extCells by simp] at hown11; obtain ⟨g, cur, rfl, hg, hBg, hnc, hcm, hcs, hcur, hcy⟩ := own_ext hown11 (by omega); obtain ⟨y0, y1⟩ := hcy o.length (f + 8 * ((k : Int) + 1), 0) (by omega) (by simp); have y1f : w11.frozen? ⟨g, o.length * 2 + 1, none⟩ = false := row_frozen hg _; have hgw := lt_of_heap hg; have Hg := Lib.hid hg; have Hcs := Lib.hid hcs; have Hcur := Lib.hid hcur; have Hcm := Lib.hid hcm; have B11 := Lib.hid (Below.grown (HB.out.alloc hws _) hg11 (by simp; omega) (own_ge Hown.out)); clear hown11 hg11 hat11 hg hcs hcur hcy hcm)
        go_roundw
        case rel =>
         refine ⟨k + 1 + 1, some ⟨g, 0, none⟩, c11, hlt, by go_num, ?_, ?_, ?_⟩
         ·rw [Hn.out, List.length_append, List.length_singleton]
         ·rw [Hn.out, List.length_append, List.length_singleton]
          exact own_set2 8 (row_set Hg.out _) hBg rfl hnc Hcs.out Hcm.out Hcur.out
         ·exact B11.out.setCell hBg _
        case measure => simp [intOf]; omega
       | true =>
        obtain ⟨o', y, h1, h2⟩ := runs_old (f := f) Hv.out (by omega) hu
        rw [Ho.out] at h1
        subst h1
        have Hn := Lib.hid h2
        have Hown' := Hown.out
        rw [List.length_append, List.length_singleton] at Hown' hrl ⊢
        obtain ⟨g, cur, rfl, hg, hBg, hnc, hcm, hcs, hcur, hcy⟩ := own_ext Hown' (by omega)
        obtain ⟨y0, y1⟩ := hcy o'.length y (by omega) (by simp)
        have y1f : wr.frozen? ⟨g, o'.length * 2 + 1, none⟩ = false := row_frozen hg _
        have hgw := lt_of_heap hg
        have hy := (runs_can (f := f) (b := b) (k := k + 1 + 1) H8.out (Int.le_refl _)).1.mem (x := (y.1, y.2 + 8)) (by rw [h2]; simp)
        simp only at hy
        have n2 : -9223372036854775808 ≤ y.2 + 8 := by omega
        have n3 : y.2 + 8 ≤ 9223372036854775807 := by omega
        have d4 : 0 ≤ (o'.length : Int) := by omega
        have d5 : (o'.length : Int) < (o'.length : Int) + 1 := by omega
        have Hg := Lib.hid hg
        have Hcs := Lib.hid hcs
        have Hcur := Lib.hid hcur
        have Hcm := Lib.hid hcm
        clear hu h2 Hown hy hg hcs hcur hcy hcm Hown'
        go_wp2
        go_roundw
        case rel =>
         refine ⟨k + 1 + 1, some ⟨g, 0, none⟩, c1, hlt, by go_num, ?_, ?_, ?_⟩
         ·rw [Hn.out, List.length_append, List.length_singleton]
         ·rw [Hn.out, List.length_append, List.length_singleton]
          exact own_set2 (y.2 + 8) (row_set Hg.out _) hBg rfl hnc Hcs.out Hcm.out Hcur.out
         ·exact HB.out.setCell hBg _
        case measure => simp [intOf]; omega
  ·obtain rfl : k = b.length := by omega
   go_wp2
   go_ret
   exact ⟨_, rfl, newRow_of_own Hown.out (by rw [Ho.out]) (by rw [Ho.out]) (Nat.le_refl _) HB.out⟩

end Go.Proofs.YtbijaloeilnjoaaGreat

namespace Go.Proofs.YtbijaloeilnjoaaGreat
open Go.RowKit

theorem run_make_rowN {P : Program} (t e : TypeId) (i : TypeInfo) (z : Value) (ht : P.underlying t = some (.slice e)) (hi : P.info? e = some i) (hz : i.zero = some z)
  (kl kc : IntKind) (n c : Nat) (hnc : n ≤ c) (hbytes : i.bytes * c ≤ 281474976710656) (h63 : c ≤ 9223372036854775807) (w : World) :
  (Instr.makeSlice t (.int kl (n : Int)) (.int kc (c : Int))).run P w = .ok (.slice (some ⟨w.heap.size, 0, none⟩) n c) (w.alloc (.cells (madeCells z.cells (c * i.size)) e)) := by
 have hb : (i.bytes : Int) * (c : Int) ≤ 281474976710656 := by
  have h : ((i.bytes * c : Nat) : Int) ≤ 281474976710656 := by omega
  rwa [Int.natCast_mul] at h
 have hr := run_make (P := P) w t e i z ht hi hz kl kc n c (by omega) (by omega) hb (by omega)
 simp only [Int.toNat_natCast] at hr
 exact hr
theorem infoBool : (Tryz.prog.info? 4).map (fun i => (i.zero, i.size, i.bytes)) = some (some (.bool false), 1, 1) := by kernel_rfl
theorem made_bools (m : Nat) : madeCells (Value.bool false).cells (m * 1) = (boolsV (List.replicate m false)).toArray := by
 apply Array.ext'
 apply List.ext_getElem?
 intro j
 simp only [madeCells, boolsV, Value.cells]
 by_cases h : j < m
 ·simp [h, Nat.mod_one]
 ·simp [h]
theorem RG.setc {B p q : Nat} {w : World} {f : Int} {b : List Bool} (h : RG B w p q f b) (k : Nat) (v : Bool) : RG B (w.setCell ⟨q, k, none⟩ (.bool v)) p q f (b.set k v) := by
 have := h.store k v
 exact ⟨this.box, this.row, this.ne, this.low, this.lowq, this.f0, this.f1⟩

set_option maxRecDepth 100000 in
set_option maxHeartbeats 1000000 in
theorem rnew_any (f n : Int) (m : Nat) (w : World) (f0 : 0 ≤ f) (hn : n = 8 * (m : Int)) (f1 : f + n ≤ 131072) :
  Calls Tryz.prog 71 #[.int .i64 f, .int .i64 n] w fun r w' => ∃ p q, r = .returned (.pointer (some ⟨p, 0, none⟩)) ∧ RG w.heap.size w' p q f (List.replicate m true) ∧ Below w.heap.size w w' := by
 obtain ⟨i0, hi0, hz0, hz1, hz2⟩ := info_parts infoBool
 have hmk := fun W => run_make_rowN (P := Tryz.prog) 166 4 i0 (.bool false) Tryz.underlying166 hi0 hz0 .i64 .i64 m m (Nat.le_refl _) (by rw [hz2]; omega) (by omega) W
 rw [hz1, made_bools] at hmk
 have e1 : n / 8 = m := by omega
 have n0 : 0 ≤ n := by omega
 have n1 : n ≤ 131072 := by omega
 have hf1 := Lib.hid (show f + 8 * (m : Int) ≤ 131072 by omega)
 have m1 : m ≤ 16384 := by omega
 clear hn f1
 go_enter Tryz.func71, Tryz.ntmps71
 go_wp2
 go_loopw [6] (fun t wr => ∃ (k : Nat) (b : List Bool), k ≤ m ∧ t = .int .i64 k ∧ b.length = m ∧ (∀ j, j < k → b[j]? = some true) ∧ RG w.heap.size wr (w.heap.size + 1) w.heap.size f b ∧ Below w.heap.size w wr) (fun t _ => m - (intOf t).toNat)
 case atStart =>
  refine ⟨0, List.replicate m false, Nat.zero_le _, rfl, by simp, by omega, ⟨?_, ?_, by omega, by omega, by omega, f0, by simpa using hf1.out⟩, by go_grown⟩
  ·rw [List.length_replicate]
   exact heap_at (by simp)
  ·rw [show (boolsV (List.replicate m false)).toArray = Array.replicate m (Value.bool false) by apply Array.ext'; simp [boolsV]]
   exact row_alloc (row_new _ _ _)
 case round =>
  obtain ⟨k, b, hk, rfl, hbl, hb, hR, hB⟩ := hrel
  have HR := Lib.hid hR
  have HB := Lib.hid hB
  have Hbl := Lib.hid hbl
  have Hb := Lib.hid hb
  obtain ⟨p0, p1, p0f, p1f⟩ := box2 hR.box
  rw [hbl] at p1
  clear hR hB hbl hb
  by_cases hlt : k < m
  ·obtain ⟨old, hold⟩ : ∃ old, b[k]? = some old := ⟨_, List.getElem?_eq_getElem (by rw [Hbl.out]; exact hlt)⟩
   have c0 := bools_cell HR.out.row k old hold
   have c0f : wr.frozen? ⟨w.heap.size, k, none⟩ = false := row_frozen HR.out.row _
   have Hold := Lib.hid hold
   clear hold
   go_wp2
   go_roundw
   case rel =>
    refine ⟨k + 1, b.set k true, hlt, by go_num, by rw [List.length_set]; exact Hbl.out, fun j hj => ?_, HR.out.setc k true, HB.out.setCell (Nat.le_refl _) _⟩
    rw [List.getElem?_set]
    split
    ·rw [if_pos (by rw [Hbl.out]; omega)]
    ·exact Hb.out j (by omega)
   case measure => simp [intOf]; omega
  ·obtain rfl : k = m := by omega
   have he : b = List.replicate k true := by
    apply List.ext_getElem?
    intro j
    rw [List.getElem?_replicate]
    split
    ·rename_i h
     exact Hb.out j h
    ·rename_i h
     rw [List.getElem?_eq_none (by rw [Hbl.out]; omega)]
   subst he
   go_wp2
   go_ret
   exact ⟨_, _, rfl, HR.out, HB.out⟩

set_option maxRecDepth 100000 in
set_option maxHeartbeats 2000000 in
theorem rcarve_no (p : Nat) (n : Int) (w : World) (hn : carveBad n = true) :
  Calls Tryz.prog 113 #[.pointer (some ⟨p, 0, none⟩), .int .i64 n] w fun r w' => r = .returned (.tuple #[.int .i64 0, .bool false]) ∧ w' = w := by
 by_cases h1 : n < 1
 ·clear hn
  go_enter Tryz.func113, Tryz.ntmps113
  go_wp2
  go_ret2
  exact ⟨rfl, rfl⟩
 ·have h0 : 1 ≤ n := by omega
  have hd1 : decide (n < 1) = false := decide_eq_false h1
  have h8 : ¬ n % 8 = 0 := by
   simp only [carveBad, Bool.or_eq_true, decide_eq_true_eq] at hn
   omega
  have hd8 : ((n % 8 : Int) != 0) = true := by rw [bne_iff_ne]; exact h8
  clear hn h8 h1
  go_enter Tryz.func113, Tryz.ntmps113
  go_wp2
  go_ret2
  exact ⟨rfl, rfl⟩

theorem carve_at {n : Int} {l : List Ext} {k : Nat} {x : Ext} (hn : carveBad n = false) (hx : l[k]? = some x) (hk : n ≤ x.2) (hlow : ∀ j y, j < k → l[j]? = some y → ¬ n ≤ y.2) : carveF n l = (x.1, true, carveRest n k x l) := by
 have hi : carveAt n l = some k := findIdx_mk hx (by simpa using hk) (fun j y hj hy => by simpa using hlow j y hj hy)
 unfold carveF
 rw [if_neg (by rw [hn]; simp), hi]
 simp only [hx]
theorem carve_none {n : Int} {l : List Ext} (hlow : ∀ j y, j < l.length → l[j]? = some y → ¬ n ≤ y.2) : carveF n l = (0, false, l) := by
 have hi : carveAt n l = none := by
  cases hc : carveAt n l with
  | none => rfl
  | some k =>
   obtain ⟨x, hx, hk, hp, _⟩ := findIdx_some hc
   exact absurd (by simpa using hp) (hlow k x hk hx)
 unfold carveF
 split
 ·rfl
 ·rw [hi]

set_option maxRecDepth 100000 in
set_option maxHeartbeats 2000000 in
theorem rcarve_go (B p q : Nat) (f e : Int) (l : List Ext) (b : List Bool) (n : Int) (w : World) (h : RG B w p q f b) (ht : Twin f e l b) (hn : carveBad n = false) :
  Calls Tryz.prog 113 #[.pointer (some ⟨p, 0, none⟩), .int .i64 n] w fun r w' =>
   r = .returned (.tuple #[.int .i64 (carveF n l).1, .bool (carveF n l).2.1]) ∧ (∃ b', b'.length = b.length ∧ RG B w' p q f b' ∧ Twin f e (carveF n l).2.2 b') ∧ Keep [q] w w' := by
 obtain ⟨n1, n8⟩ := carveBad_no.1 hn
 have hd1 : decide (n < 1) = false := decide_eq_false (by omega)
 have hd8 : ((n % 8 : Int) != 0) = false := by rw [n8]; rfl
 have HH := Lib.hid h
 have Ht := Lib.hid ht
 have H8 := Lib.hid n8
 have Hn := Lib.hid hn
 have hf8 := ht.f8
 have hru := runs_all ht.f8 ht.len ht.can ht.cov
 have hll := ht.can.len (by have := ht.len; omega)
 have hfe := ht.len
 have f1 := h.f1
 have f0 := h.f0
 have hl : l.length ≤ 131072 := by omega
 have Hru := Lib.hid hru
 have Hf8 := Lib.hid hf8
 have Hfe := Lib.hid hfe
 have hqw := h.lt.2
 clear h ht n8 hn hf8 hru hll hfe
 go_enter Tryz.func113, Tryz.ntmps113
 go_wp2_with fail
 refine (extents_any B p q f b _ HH.out Hf8.out).mono ?_
 rintro r w1 ⟨v, rfl, hnew⟩
 rw [Hru.out] at hnew
 obtain ⟨A1, c1, rfl, hc1, hcs1, hfr, hb1⟩ := hnew
 have HR1 := Lib.hid (HH.out.below hb1)
 have K1 := Lib.hid (keep_below hb1 [q])
 have Hc1 := Lib.hid hcs1
 clear hb1 hcs1
 go_wp2
 go_loopw [7] (fun t wr => ∃ k : Nat, k ≤ l.length ∧ t = .int .i64 k ∧ (∀ j y, j < k → l[j]? = some y → ¬ n ≤ y.2) ∧ wr = w1) (fun t _ => l.length - (intOf t).toNat)
 case atStart => exact ⟨0, Nat.zero_le _, rfl, by omega, rfl⟩
 case round =>
  obtain ⟨k, hk, rfl, hlow, rfl⟩ := hrel
  have Hlow := Lib.hid hlow
  clear hlow
  by_cases hlt : k < l.length
  ·obtain ⟨bh, oh, rfl, hbh, hch⟩ := exts_at Hc1.out (by omega)
   obtain ⟨x, hx⟩ : ∃ x, l[k]? = some x := ⟨_, List.getElem?_eq_getElem hlt⟩
   obtain ⟨x0, x1⟩ := hch k x hx
   have hbq : bh ≠ q := by have := hfr _ rfl; simp only at this; omega
   have Hx := Lib.hid hx
   clear hx hch
   by_cases hnx : n ≤ x.2
   ·have d1 : decide (x.2 ≥ n) = true := decide_eq_true hnx
    have d2 : decide (n ≤ x.2) = true := decide_eq_true hnx
    have hcv := carve_at Hn.out Hx.out hnx Hlow.out
    obtain ⟨i, m, g1, g2, g3, g4⟩ := Ht.out.carve (n := n) (by rw [hcv])
    rw [hcv] at g1 g4
    have G1 := Lib.hid g1
    have G2 := Lib.hid g2
    have G4 := Lib.hid g4
    have Hcv := Lib.hid hcv
    clear g1 g2 g4 hcv
    go_wp2_with fail
    refine (set_any B p q f b false x.1 n i m _ HR1.out G1.out G2.out g3).mono ?_
    rintro r w2 ⟨rfl, hR, hK⟩
    have HR2 := Lib.hid hR
    have K2 := Lib.hid (K1.out.trans hK)
    have x0' := hK.cell x0 (by simpa using hbq)
    clear hR hK x0 x1
    go_wp2
    go_ret2
    rw [Hcv.out]
    exact ⟨rfl, ⟨_, setB_len _ _ _ _, HR2.out, G4.out⟩, K2.out⟩
   ·have d1 : decide (x.2 ≥ n) = false := decide_eq_false (by omega)
    have d2 : decide (n ≤ x.2) = false := decide_eq_false hnx
    go_wp2
    go_roundw
    case rel =>
     refine ⟨k + 1, hlt, by go_num, fun j y hj hy => ?_, by first | rfl | trivial⟩
     rcases Nat.lt_or_ge j k with g | g
     ·exact Hlow.out j y g hy
     ·obtain rfl : j = k := by omega
      rw [Hx.out] at hy
      injection hy with hy
      subst hy
      omega
    case measure => simp [intOf]; omega
  ·obtain rfl : k = l.length := by omega
   have Hcv := Lib.hid (carve_none Hlow.out)
   go_wp2
   go_ret2
   rw [Hcv.out]
   exact ⟨rfl, ⟨b, rfl, HR1.out, Ht.out⟩, K1.out⟩

theorem rcarve_any (B p q : Nat) (f e : Int) (l : List Ext) (b : List Bool) (n : Int) (w : World) (h : RG B w p q f b) (ht : Twin f e l b) :
  Calls Tryz.prog 113 #[.pointer (some ⟨p, 0, none⟩), .int .i64 n] w fun r w' =>
   r = .returned (.tuple #[.int .i64 (carveF n l).1, .bool (carveF n l).2.1]) ∧ (∃ b', b'.length = b.length ∧ RG B w' p q f b' ∧ Twin f e (carveF n l).2.2 b') ∧ Keep [q] w w' := by
 cases hn : carveBad n with
 | false => exact rcarve_go B p q f e l b n w h ht hn
 | true =>
  have hc : carveF n l = (0, false, l) := by unfold carveF; rw [if_pos hn]
  rw [hc]
  exact (rcarve_no p n w hn).mono fun r w' ⟨h1, h2⟩ => by subst h2; exact ⟨h1, ⟨b, rfl, h, ht⟩, Keep.refl _ _⟩




end Go.Proofs.YtbijaloeilnjoaaGreat

namespace Go.Proofs.YtbijaloeilnjoaaGreat
end Go.Proofs.YtbijaloeilnjoaaGreat
