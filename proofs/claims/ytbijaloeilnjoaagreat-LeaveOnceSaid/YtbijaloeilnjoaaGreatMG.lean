/- The walk of slices.Delete of one extent, in place. The walk of (*Ground).Carve. The walk of (*Ground).Give where it is refused. The walk of (*Ground).Give where it goes on. -/
import Derived.Test.YtbijaloeilnjoaaGreatMF
import Derived.BigRegion
namespace Go.Proofs.YtbijaloeilnjoaaGreat
open Go.RowKit

theorem flat_erase (l : List Ext) (i : Nat) : (l.eraseIdx i).flatMap extCells = (l.flatMap extCells).take (i * 2) ++ (l.drop (i + 1)).flatMap extCells := by
 rw [List.eraseIdx_eq_take_drop_succ, List.flatMap_append, flat_take extCells 2 extCells_length]

theorem zero_ext (w : World) : (zeroValue 124).run Tryz.prog w = .ok (.agg #[.int .i64 0, .int .i64 0]) w := by kernel_rfl

theorem zero_cells : (Builtin.zeroCells (Value.agg #[.int .i64 0, .int .i64 0]).cells 1).toList = [.int .i64 0, .int .i64 0] := by kernel_rfl
theorem zero_one : ∀ u ∈ (Builtin.zeroCells (Value.agg #[.int .i64 0, .int .i64 0]).cells 1).toList, u.oneCell' = true := by
 intro u hu
 rw [zero_cells] at hu
 simp only [List.mem_cons, List.not_mem_nil, or_false, or_self] at hu
 subst hu
 rfl

set_option maxRecDepth 100000 in
set_option maxHeartbeats 1000000 in
theorem delete_one (B k c i : Nat) (l : List Ext) (w : World) (hl : l.length ≤ 1048576) (hi : i < l.length) (h : w.ownsRow B 124 2 (.slice (some ⟨k, 0, none⟩) l.length c) l.length (l.flatMap extCells)) :
  Calls Tryz.prog 121 #[.slice (some ⟨k, 0, none⟩) l.length c, .int .i64 i, .int .i64 (i + 1)] w
   fun e w' => e = .returned (.slice (some ⟨k, 0, none⟩) (l.length - 1) c) ∧ w'.ownsRow B 124 2 (.slice (some ⟨k, 0, none⟩) (l.length - 1) c) (l.length - 1) ((l.eraseIdx i).flatMap extCells) ∧ Keep [k] w w' := by
 obtain ⟨i0, hi0, hz0, hz1, hz2⟩ := info_parts infoExt
 have hcells := Cells.of_own h
 obtain ⟨hlen, hh⟩ := h
 rcases hh with ⟨h0, _⟩ | ⟨g, cap, cur, hv, hBg, hg, hnc, hcm, hcs, hx⟩
 ·cases h0
 injection hv with hv1 hv2 hv3
 injection hv1 with hv1
 injection hv1 with hv1
 subst hv1 hv3
 have b1 : (i : Int) < (l.length : Int) := by omega
 have b2 : (l.length : Int) ≤ (c : Int) := by omega
 have b3 : (l.length : Int) ≤ 1048576 := by omega
 have b4 : (i : Int) + 1 ≤ (l.length : Int) := by omega
 have b5 : (c : Int) ≤ 9223372036854775807 := by unfold maxLen at hcm; omega
 have b6 : i ≤ c := by omega
 have b7 : i + 1 ≤ l.length := by omega
 have b8 : i ≤ l.length := by omega
 have b9 : i + 1 ≤ c := by omega
 have b10 : 0 ≤ (i : Int) + 1 := by omega
 have hne : ((i : Int) == (i : Int) + 1) = false := by simp; omega
 have Hx := Lib.hid hx
 have Hg := Lib.hid hg
 have Hcs := Lib.hid hcs
 have Hlen := Lib.hid hlen
 have Hz := Lib.hid hz0
 clear hx hg hcs hlen
 have hnews : ((l.drop (i + 1)).flatMap extCells).length = (l.length - (i + 1)) * 2 := by rw [exts_len, List.length_drop]
 have hfit : i * 2 + ((l.drop (i + 1)).flatMap extCells).length ≤ cur.size := by rw [hnews, Hcs.out]; omega
 have hsub : i + (l.length - (i + 1)) = l.length - 1 := by omega
 have Hsub := Lib.hid hsub
 have Hnews := Lib.hid hnews
 have Hfit := Lib.hid hfit
 clear hsub hnews hfit
 have hdrop : Cells w (if c = i + 1 then some ⟨k, 0, none⟩ else some ⟨k, (i + 1) * 2, none⟩) ((l.drop (i + 1)).flatMap extCells) := by
  rw [flat_drop extCells 2 extCells_length]
  refine Cells.drop hcells (fun b off hlt he => ?_)
  rw [exts_len] at hlt
  injection he with he
  injection he with he1 he2
  subst he1 he2
  rw [if_neg (by omega), Nat.zero_add]
 go_enter Tryz.func121, Tryz.ntmps121
 go_wp2
 go_region_law ((refine step_append_in _ rfl (.tmp 22) (.tmp 25) _ (by rfl) 124 i0 2 Tryz.underlying163 hi0 hz1 (by omega) k i c cur (by rfl) Hg.out (if c = i + 1 then some ⟨k, 0, none⟩ else some ⟨k, (i + 1) * 2, none⟩) (l.length - (i + 1)) (c - (i + 1)) (by rfl) ((l.drop (i + 1)).flatMap extCells) Hnews.out (Cells.drew hdrop) (exts_one _) (by omega) Hfit.out ?_; intro w4 hg4 hb4))
 generalize (if c = i + 1 then some (⟨k, 0, none⟩ : Addr) else some ⟨k, (i + 1) * 2, none⟩) = adr at hdrop ⊢
 clear hdrop
 obtain ⟨m, Hm⟩ : ∃ m, Hid (l.length - 1 = m) := ⟨_, rfl⟩
 rw [Hsub.out, Hm.out]
 have Hm1 := Hm.out
 have m1 : (m : Int) ≤ (l.length : Int) := by omega
 have m2 : ¬ c = m := by omega
 have m3 : l.length - m = 1 := by omega
 have m4 : m ≤ c := by omega
 have m5 : m ≤ l.length := by omega
 have Hm2 := Lib.hid Hm1
 have hl3 : (cur.toList.take (i * 2) ++ (((l.drop (i + 1)).flatMap extCells) ++ cur.toList.drop (i * 2 + ((l.drop (i + 1)).flatMap extCells).length))).length = c * 2 := by
  rw [List.length_append, List.length_append, List.length_take, List.length_drop, Array.length_toList (xs := cur), Hcs.out, Hnews.out]
  omega
 have Hl3 := Lib.hid hl3
 have Hg4 := Lib.hid hg4
 clear Hm1 hl3 hg4
 have hf5 : m * 2 + 1 * (Value.agg #[.int .i64 0, .int .i64 0]).cells.size ≤ (cur.toList.take (i * 2) ++ (((l.drop (i + 1)).flatMap extCells) ++ cur.toList.drop (i * 2 + ((l.drop (i + 1)).flatMap extCells).length))).length := by
  rw [Hl3.out]
  show m * 2 + 1 * 2 ≤ c * 2
  omega
 have Hf5 := Lib.hid hf5
 clear hf5
 go_wp2_with ((with_reducible refine wpList_clear_in _ rfl (.tmp 31) _ rfl 124 (.agg #[.int .i64 0, .int .i64 0]) Tryz.underlying163 (zero_ext _) k (m * 2) 1 (c - m) _ rfl Hg4.out (by omega) Hf5.out zero_one ?_); intro w5 hg5 hb5)
 have Hg5 := Lib.hid hg5
 clear hg5
 go_wp2
 go_ret
 have hm := Hm.out
 refine ⟨by rw [hm]; rfl, ?_, ?_⟩
 ·rw [hm]
  have hE : (l.eraseIdx i).flatMap extCells = cur.toList.take (i * 2) ++ (l.drop (i + 1)).flatMap extCells := by
   rw [flat_erase, ← Hx.out, List.take_take, Nat.min_eq_left (by omega)]
  have hEl : ((l.eraseIdx i).flatMap extCells).length = m * 2 := by rw [exts_len, List.length_eraseIdx, if_pos hi, hm]
  have h4 : (cur.toList.take (i * 2) ++ (((l.drop (i + 1)).flatMap extCells) ++ cur.toList.drop (i * 2 + ((l.drop (i + 1)).flatMap extCells).length))).take (m * 2) = (l.eraseIdx i).flatMap extCells := by
   rw [← List.append_assoc, ← hE, ← hEl, List.take_left]
  have hl3 := Hl3.out
  have hg5 := Hg5.out
  rw [zero_cells] at hg5
  generalize cur.toList.take (i * 2) ++ (((l.drop (i + 1)).flatMap extCells) ++ cur.toList.drop (i * 2 + ((l.drop (i + 1)).flatMap extCells).length)) = R at hg5 hl3 h4
  have ht : (R.take (m * 2)).length = m * 2 := by rw [List.length_take]; omega
  refine own_take hg5 hBg (c := c) (by omega) ?_ ?_ hcm
  ·show (R.take (m * 2) ++ ([Value.int .i64 0, .int .i64 0] ++ R.drop (m * 2 + 1 * 2))).length = c * 2
   simp only [List.length_append, List.length_cons, List.length_nil, List.length_drop, ht]
   omega
  ·rw [List.take_append_of_le_length (by omega), List.take_take, Nat.min_self, h4]
 ·exact ((Keep.refl [k] w).drew.grown hb4 (by simp)).grown hb5 (by simp)

end Go.Proofs.YtbijaloeilnjoaaGreat

namespace Go.Proofs.YtbijaloeilnjoaaGreat
open Go.RowKit

def carveBad (n : Int) : Bool := decide (n < 1) || decide (n % 8 ≠ 0)

theorem flat_set (l : List Ext) (i : Nat) (y : Ext) : (l.set i y).flatMap extCells = ((l.flatMap extCells).set (i * 2) (.int .i64 y.1)).set (i * 2 + 1) (.int .i64 y.2) := by
 induction l generalizing i with
 | nil => rfl
 | cons a l ih =>
  cases i with
  | zero => rfl
  | succ i =>
   rw [List.set_cons_succ, List.flatMap_cons, List.flatMap_cons, ih]
   show [Value.int .i64 a.1, .int .i64 a.2] ++ _ = ((([Value.int .i64 a.1, .int .i64 a.2] ++ l.flatMap extCells) : List Value).set ((i + 1) * 2) _).set ((i + 1) * 2 + 1) _
   rw [show (i + 1) * 2 = i * 2 + 1 + 1 by omega]
   rfl
theorem set_erase (l : List Ext) (i : Nat) (y : Ext) : (l.set i y).eraseIdx i = l.eraseIdx i := by
 induction l generalizing i with
 | nil => rfl
 | cons a l ih =>
  cases i with
  | zero => rfl
  | succ i => rw [List.set_cons_succ, List.eraseIdx_cons_succ, List.eraseIdx_cons_succ, ih]
theorem own_set {B k n c i : Nat} {w : World} {cur : Array Value} {l : List Ext} (y : Ext) (hk : w.heap[k]? = some (.cells ((cur.setIfInBounds (i * 2) (.int .i64 y.1)).setIfInBounds (i * 2 + 1) (.int .i64 y.2)) 124 (0, 0))) (hB : B ≤ k) (hn : l.length = n) (hc : n ≤ c) (hs : cur.size = c * 2) (hm : c ≤ maxLen) (hx : cur.toList.take (l.length * 2) = l.flatMap extCells) :
  w.ownsRow B 124 2 (.slice (some ⟨k, 0, none⟩) n c) n ((l.set i y).flatMap extCells) := by
 subst hn
 have := own_of_row (base := B) (n := l.length) (c := c) (size := 2) hk hB hc (by simpa using hs) hm
 rw [flat_set, ← hx]
 simpa [List.take_set] using this

theorem own_ext {B n c : Nat} {w : World} {A : Option Addr} {l : List Ext} (h : w.ownsRow B 124 2 (.slice A n c) n (l.flatMap extCells)) (h0 : 0 < n) :
  ∃ g cur, A = some ⟨g, 0, none⟩ ∧ w.heap[g]? = some (.cells cur 124 (0, 0)) ∧ B ≤ g ∧ n ≤ c ∧ c ≤ maxLen ∧ cur.size = c * 2 ∧ cur.toList.take (n * 2) = l.flatMap extCells ∧
   ∀ i x, i < n → l[i]? = some x → w.cell? ⟨g, i * 2, none⟩ = some (.int .i64 x.1) ∧ w.cell? ⟨g, i * 2 + 1, none⟩ = some (.int .i64 x.2) := by
 obtain ⟨hlen, hh⟩ := h
 rcases hh with ⟨_, hl0⟩ | ⟨k, cap, cur, hv, hBk, hk, hnc, hcm, hcs, hcur⟩
 ·omega
 injection hv with hA hn' hc'
 subst hA
 subst hc'
 refine ⟨k, cur, rfl, hk, hBk, hnc, hcm, hcs, hcur, fun i x hi hx => ?_⟩
 have g0 := flat_get extCells 2 extCells_length l i 0 (by omega)
 have g1 := flat_get extCells 2 extCells_length l i 1 (by omega)
 rw [hx, ← hcur, List.getElem?_take, if_pos (by omega)] at g0 g1
 rw [row_cell hk, row_cell hk]
 exact ⟨by simpa [extCells] using g0, by simpa [extCells] using g1⟩
theorem own_set2 {B k n c : Nat} {w : World} {cur : Array Value} {o : List Ext} {y : Ext} (z : Int) (hk : w.heap[k]? = some (.cells (cur.setIfInBounds (o.length * 2 + 1) (.int .i64 z)) 124 (0, 0))) (hB : B ≤ k) (hn : o.length + 1 = n) (hc : n ≤ c) (hs : cur.size = c * 2) (hm : c ≤ maxLen) (hx : cur.toList.take (n * 2) = (o ++ [y]).flatMap extCells) :
  w.ownsRow B 124 2 (.slice (some ⟨k, 0, none⟩) n c) n ((o ++ [(y.1, z)]).flatMap extCells) := by
 subst hn
 have := own_of_row (base := B) (n := o.length + 1) (c := c) (size := 2) hk hB hc (by simpa using hs) hm
 rw [Array.toList_setIfInBounds, List.take_set, hx, List.flatMap_append] at this
 rw [List.flatMap_append]
 have e : (o.flatMap extCells ++ [y].flatMap extCells).set (o.length * 2 + 1) (.int .i64 z) = o.flatMap extCells ++ [(y.1, z)].flatMap extCells := by
  rw [List.set_append_right _ _ (by rw [exts_len]; omega), exts_len, show o.length * 2 + 1 - o.length * 2 = 1 by omega]
  rfl
 rw [e] at this
 exact this

set_option maxHeartbeats 1000000 in
theorem carve_no (B p : Nat) (f e : Int) (l : List Ext) (q : Option Nat) (n : Int) (w : World) (h : Gr B w p f e l q) (hn : carveBad n = true ∨ carveAt n l = none) :
  Calls Tryz.prog 80 #[.pointer (some ⟨p, 0, none⟩), .int .i64 n] w fun r w' => r = .returned (.tuple #[.int .i64 0, .bool false]) ∧ Below w.heap.size w w' := by
 have hsz := h.size
 have hpw := h.lt.1
 obtain ⟨A, c, h1, h2, _⟩ := h.mem
 obtain ⟨_, _, b2, _, _, _⟩ := box3 h1
 have hc := Cells.of_own h2
 clear h h1 h2
 by_cases h1 : n < 1
 ·clear hn
  go_enter Tryz.func80, Tryz.ntmps80
  go_wp2
  go_ret2
  exact ⟨rfl, by go_grown⟩
 ·have h0 : 1 ≤ n := by omega
  have hd1 : decide (n < 1) = false := decide_eq_false h1
  by_cases h8 : n % 8 = 0
  ·have hd8 : ((n % 8 : Int) != 0) = false := by rw [h8]; rfl
   have hno : carveAt n l = none := by
    rcases hn with hn | hn
    ·simp [carveBad, hd1, h8] at hn
    ·exact hn
   have Hno := Lib.hid hno
   clear hn h8 hno h1
   go_enter Tryz.func80, Tryz.ntmps80
   go_wp2_with (go_at_call 119; refine (find_carve A c l w.heap.size n _ (by omega) (Cells.alloc hc _) (box1 (row_new _ _ _)).1).mono ?_; rintro r w1 ⟨rfl, hb⟩; rw [Hno.out]; simp only [idxI])
   go_ret2
   exact ⟨rfl, below_only (by go_grown) hb⟩
  ·have hd8 : ((n % 8 : Int) != 0) = true := by rw [bne_iff_ne]; exact h8
   clear hn h8 h1
   go_enter Tryz.func80, Tryz.ntmps80
   go_wp2
   go_ret2
   exact ⟨rfl, by go_grown⟩

set_option maxHeartbeats 2000000 in
theorem carve_yes (B p : Nat) (f e : Int) (l : List Ext) (q : Option Nat) (n : Int) (i : Nat) (x : Ext) (w : World) (h : Gr B w p f e l q) (h0 : 1 ≤ n) (h8 : n % 8 = 0) (hi : carveAt n l = some i) (hx : l[i]? = some x) :
  Calls Tryz.prog 80 #[.pointer (some ⟨p, 0, none⟩), .int .i64 n] w fun r w' => r = .returned (.tuple #[.int .i64 x.1, .bool true]) ∧ Gr B w' p f e (carveRest n i x l) q ∧ Keep (p :: q.toList) w w' := by
 have hG := Lib.hid h
 have hsz := h.size
 have hpw := h.lt.1
 have hne := h.ne
 have hmem := h.can.mem (List.mem_of_getElem? hx)
 have f0 := h.f0
 have e1 := h.e1
 obtain ⟨A, c, h1, h2, h3⟩ := h.mem
 have hc := Cells.of_own h2
 have hil := (List.getElem?_eq_some_iff.1 hx).1
 have hnx : n ≤ x.2 := by
  obtain ⟨y, k1, _, k2, _⟩ := findIdx_some hi
  rw [hx] at k1
  injection k1 with k1
  subst k1
  simpa using k2
 obtain ⟨hlen, hh⟩ := h2
 rcases hh with ⟨_, hl0⟩ | ⟨k, cap, cur, hv, hBk, hk, hnc, hcm, hcs, hcur⟩
 ·omega
 injection hv with hA hn' hc'
 subst hA
 subst hc'
 have hkp : k ≠ p := by
  intro hkp
  subst hkp
  rw [← h3] at hne
  exact hne rfl
 have hkw := lt_of_heap hk
 have hd1 : decide (n < 1) = false := decide_eq_false (by omega)
 have hd8 : ((n % 8 : Int) != 0) = false := by rw [h8]; rfl
 have Hi := Lib.hid hi
 have Hk := Lib.hid hk
 have H1 := Lib.hid h1
 have Hcur := Lib.hid hcur
 have Hcs := Lib.hid hcs
 have Hx := Lib.hid hx
 have Hq := Lib.hid h3
 have H8 := Lib.hid h8
 obtain ⟨_, _, b2, _, _, _⟩ := box3 h1
 clear h h1 h3 hi hk hcur hcs hx h8 hlen hn' hne
 have a0 : 0 ≤ (i : Int) := by omega
 have a1 : (i : Int) < (l.length : Int) := by omega
 have a2 : ¬ (i : Int) < 0 := by omega
 obtain ⟨hx1, hx2, hx3, hx4, hx5⟩ := hmem
 have s1 : -9223372036854775808 ≤ x.1 + n := by omega
 have s2 : x.1 + n ≤ 9223372036854775807 := by omega
 have s3 : -9223372036854775808 ≤ x.2 - n := by omega
 have s4 : x.2 - n ≤ 9223372036854775807 := by omega
 go_enter Tryz.func80, Tryz.ntmps80
 go_wp2_with fail
 refine (find_carve (some ⟨k, 0, none⟩) c l w.heap.size n _ (by omega) (Cells.alloc hc _) (box1 (row_new _ _ _)).1).mono ?_
 rintro r w1 ⟨rfl, hb⟩
 rw [Hi.out]
 simp only [idxI]
 have Hp1 := Lib.hid (row_below (row_alloc H1.out) hb)
 have Hk1 := Lib.hid (row_below (row_alloc Hk.out) hb)
 have Hn1 := Lib.hid (row_below (row_new w #[.int .i64 n] 3) hb)
 have K1 : Keep (p :: q.toList) w w1 := keep_below (below_only (by go_grown) hb) _
 have hw1 : w.heap.size < w1.heap.size := lt_of_heap Hn1.out
 obtain ⟨_, _, b2, _, _, b2f⟩ := box3 Hp1.out
 obtain ⟨n0, _⟩ := box1 Hn1.out
 have hci : cur[i * 2]? = some (.int .i64 x.1) ∧ cur[i * 2 + 1]? = some (.int .i64 x.2) := by
  have g0 := flat_get extCells 2 extCells_length l i 0 (by omega)
  have g1 := flat_get extCells 2 extCells_length l i 1 (by omega)
  rw [Hx.out, ← Hcur.out, List.getElem?_take, if_pos (by omega)] at g0 g1
  exact ⟨by simpa [extCells] using g0, by simpa [extCells] using g1⟩
 have x0 : w1.cell? ⟨k, i * 2, none⟩ = some (.int .i64 x.1) := by rw [row_cell Hk1.out]; exact hci.1
 have x1 : w1.cell? ⟨k, i * 2 + 1, none⟩ = some (.int .i64 x.2) := by rw [row_cell Hk1.out]; exact hci.2
 have x0f : w1.frozen? ⟨k, i * 2, none⟩ = false := row_frozen Hk1.out _
 have x1f : w1.frozen? ⟨k, i * 2 + 1, none⟩ = false := row_frozen Hk1.out _
 have Hci := Lib.hid hci
 clear hb hci hc
 go_wp2_with fail
 go_region
 have Hk2 := row_set (row_set Hk1.out (i := i * 2) (.int .i64 (x.1 + n))) (i := i * 2 + 1) (.int .i64 (x.2 - n))
 have Hp2 : ((w1.setCell ⟨k, i * 2, none⟩ (.int .i64 (x.1 + n))).setCell ⟨k, i * 2 + 1, none⟩ (.int .i64 (x.2 - n))).heap[p]? = some (.cells #[.int .i64 f, .int .i64 e, .slice (some ⟨k, 0, none⟩) l.length c] 165 (0, 0)) := by
  rw [Below.heap_setCell _ _ _ _ (by simpa using Ne.symm hkp), Below.heap_setCell _ _ _ _ (by simpa using Ne.symm hkp)]
  exact Hp1.out
 have hkq : k ∈ p :: q.toList := by rw [← Hq.out]; simp [Value.ownBlock]
 have K2 := ((K1.setCell (p := ⟨k, i * 2, none⟩) (.inl hkq) (.int .i64 (x.1 + n))).setCell (p := ⟨k, i * 2 + 1, none⟩) (.inl hkq) (.int .i64 (x.2 - n))).drew
 replace Hk2 := heap_drew Hk2
 replace Hp2 := heap_drew Hp2
 generalize ((w1.setCell ⟨k, i * 2, none⟩ (.int .i64 (x.1 + n))).setCell ⟨k, i * 2 + 1, none⟩ (.int .i64 (x.2 - n))).drew = w2 at Hk2 Hp2 K2 ⊢
 have x12 : w2.cell? ⟨k, i * 2 + 1, none⟩ = some (.int .i64 (x.2 - n)) := by
  rw [row_cell Hk2]
  have h1 := (Array.getElem?_eq_some_iff.1 Hci.out.2).1
  simp [h1]
 have Hk2' := Lib.hid Hk2
 have Hp2' := Lib.hid Hp2
 clear Hk2 Hp2 b2 b2f n0 x0 x1 x0f x1f
 by_cases hxn : x.2 = n
 ·have hz : ((x.2 - n : Int) == 0) = true := by rw [hxn]; simp
  have Hxn := Lib.hid hxn
  clear hxn
  obtain ⟨_, _, b2, _, _, b2f⟩ := box3 Hp2'.out
  have hd := delete_one B k c i (l.set i (x.1 + n, x.2 - n)) w2 (by rw [List.length_set]; omega) (by rw [List.length_set]; omega) (by
   rw [List.length_set]
   exact own_set (x.1 + n, x.2 - n) Hk2'.out hBk rfl hnc Hcs.out hcm Hcur.out)
  rw [List.length_set, set_erase] at hd
  have Hd := Lib.hid hd
  clear hd
  go_wp2_with fail
  refine Hd.out.mono ?_
  rintro r w3 ⟨rfl, hown, K3⟩
  have Hp3 := Lib.hid (K3.row Hp2'.out (by simpa using Ne.symm hkp))
  obtain ⟨_, _, b2, _, _, b2f⟩ := box3 Hp3.out
  go_wp2
  go_ret2
  refine ⟨rfl, ?_, ?_⟩
  ·have hcan := (carve_fit hG.out.can Hx.out (by omega) H8.out hnx).1
   have hcr : carveRest n i x l = l.eraseIdx i := by rw [carveRest, if_pos Hxn.out]
   have hll : (l.eraseIdx i).length = l.length - 1 := by rw [List.length_eraseIdx, if_pos hil]
   rw [hcr] at hcan ⊢
   refine { hG.out with can := hcan, mem := ⟨some ⟨k, 0, none⟩, c, ?_, ?_, Hq.out⟩ }
   ·rw [hll]
    have := row_set (i := 2) Hp3.out (.slice (some ⟨k, 0, none⟩) (l.length - 1) c)
    simpa using this
   ·rw [hll]
    exact own_kept hown ((Keep.refl [p] w3).setCell (p := ⟨p, 2, none⟩) (.inl (by simp)) _) (by simpa [Value.ownBlock] using hkp)
  ·exact (K2.then K3 (by intro j _ hj; simp at hj; subst hj; exact hkq)).setCell (p := ⟨p, 2, none⟩) (.inl (by simp)) _
 ·have hz : ((x.2 - n : Int) == 0) = false := by rw [beq_eq_false_iff_ne]; omega
  have Hxn := Lib.hid hxn
  clear hxn
  go_wp2
  go_ret2
  refine ⟨rfl, ?_, K2⟩
  have hcan := (carve_fit hG.out.can Hx.out (by omega) H8.out hnx).1
  have hcr : carveRest n i x l = l.set i (x.1 + n, x.2 - n) := by rw [carveRest, if_neg Hxn.out]
  rw [hcr] at hcan ⊢
  refine { hG.out with can := hcan, mem := ⟨some ⟨k, 0, none⟩, c, ?_, ?_, Hq.out⟩ }
  ·rw [List.length_set]
   exact Hp2'.out
  ·rw [List.length_set]
   exact own_set (x.1 + n, x.2 - n) Hk2'.out hBk rfl hnc Hcs.out hcm Hcur.out

end Go.Proofs.YtbijaloeilnjoaaGreat

namespace Go.Proofs.YtbijaloeilnjoaaGreat
open Go.RowKit



end Go.Proofs.YtbijaloeilnjoaaGreat

namespace Go.Proofs.YtbijaloeilnjoaaGreat
open Go.RowKit



end Go.Proofs.YtbijaloeilnjoaaGreat
