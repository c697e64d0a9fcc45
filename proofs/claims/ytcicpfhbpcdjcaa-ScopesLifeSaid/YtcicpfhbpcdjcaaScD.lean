/- The walks of plan's Right, Immortal, Heap, of scopes' New, of the document's Fit, Immortal, Heap. -/
import Derived.Test.YtcicpfhbpcdjcaaScC
import Derived.Test.YtcicpfhbpcdjcaaGroundRefB
namespace Go.Proofs.Ytcicpfhbpcdjcaa
open Go.RowKit

set_option maxHeartbeats 1000000 in
theorem planRight_any (P : Pln) (w : World) (h : PlnOk P) : Calls Try.prog 37 #[P.val] w fun r w' => r = .returned (.bool true) ∧ Below w.heap.size w w' := by
  obtain ⟨s, t, i, m⟩ := P
  obtain ⟨h1, h2, h3, h4, h5, h6, h7, h8, h9, h10⟩ := h
  dsimp only at h1 h2 h3 h4 h5 h6 h7 h8 h9 h10
  have e1 := inB_t (show 1 ≤ s ∧ s ≤ 8 from ⟨h1, h2⟩)
  have e2 := inB_t (show 1 ≤ t ∧ t ≤ 4 from ⟨h3, h4⟩)
  have e3 := inB_t (show 0 ≤ i ∧ i ≤ 2048 from ⟨h5, h6⟩)
  have e4 := inB_t (show 0 ≤ m ∧ m ≤ 8192 from ⟨h7, h8⟩)
  obtain ⟨o1, o2, o3⟩ := or_mod8 i m h5 (by omega) h7 (by omega)
  have e5 : bits .or .i64 i m % 8 = 0 := o3.2 ⟨h9, h10⟩
  have e6 : ((bits .or .i64 i m % 8 : Int) == 0) = true := by rw [e5]; rfl
  clear o3 h9 h10 e5
  go_enter Try.func37, Try.ntmps37
  go_wp2_with (go_at_call 41; refine (within_any _ _ _ _).mono ?_; rintro r w1 ⟨rfl, rfl⟩; first | rw [e1] | rw [e2] | rw [e3] | rw [e4])
  go_ret
  exact ⟨rfl, by go_grown⟩

set_option maxHeartbeats 1000000 in
theorem planImmortal_any (P : Pln) (w : World) (h : PlnOk P) : Calls Try.prog 38 #[P.val] w fun r w' => r = .returned (.tuple #[.agg #[.int .i64 (P.s * 64), .int .i64 P.i], .int .i64 0]) ∧ Below w.heap.size w w' := by
  have HP := Lib.hid (fun W => planRight_any P W h)
  obtain ⟨s, t, i, m⟩ := P
  obtain ⟨h1, h2, h3, h4, h5, h6, h7, h8, h9, h10⟩ := h
  dsimp only at h1 h2 h3 h4 h5 h6 h7 h8 h9 h10
  have HR := Lib.hid (show ((w.alloc (.cells #[.int .i64 s, .int .i64 t, .int .i64 i, .int .i64 m] 23)).alloc (.cells #[.int .i64 0, .int .i64 0] 32)).heap[w.heap.size]? = some (.cells #[.int .i64 s, .int .i64 t, .int .i64 i, .int .i64 m] 23 (0, 0)) from row_alloc (row_new w _ _))
  have HR2 := Lib.hid (show ((w.alloc (.cells #[.int .i64 s, .int .i64 t, .int .i64 i, .int .i64 m] 23)).alloc (.cells #[.int .i64 0, .int .i64 0] 32)).heap[w.heap.size + 1]? = some (.cells #[.int .i64 0, .int .i64 0] 32 (0, 0)) from heap_at (by simp))
  have B0 : Below w.heap.size w ((w.alloc (.cells #[.int .i64 s, .int .i64 t, .int .i64 i, .int .i64 m] 23)).alloc (.cells #[.int .i64 0, .int .i64 0] 32)) := by go_grown
  clear h9 h10
  go_enter Try.func38, Try.ntmps38
  go_wp2_with (go_at_call 37; refine (HP.out _).mono ?_; rintro r w1 ⟨rfl, hb⟩; have B1 := below_only B0 hb; obtain ⟨q0, q1, q2, q3, g0, g1, g2, g3⟩ := box4 (row_below HR.out hb); obtain ⟨r0, r1, f0, f1⟩ := box2 (row_below HR2.out hb))
  refine bodyPost_ret (by simp [results, Try.results38, go_sem, r0, r1]; rfl) rfl ?_
  exact ⟨rfl, by go_grown⟩

theorem row_two {w : World} {g : Nat} {a b : Value} {t : TypeId} (h : w.heap[g]? = some (.cells #[a, b] t (0, 0))) (a' b' : Value) :
    ((w.setCell ⟨g, 0, none⟩ a').setCell ⟨g, 1, none⟩ b').heap[g]? = some (.cells #[a', b'] t (0, 0)) := by
  have := row_set (i := 1) (row_set (i := 0) h a') b'
  simpa using this

set_option maxHeartbeats 1000000 in
theorem planHeap_any (P : Pln) (w : World) (h : PlnOk P) : Calls Try.prog 39 #[P.val] w fun r w' => r = .returned (.tuple #[.agg #[.int .i64 (P.s * 64 + P.i), .int .i64 P.h], .int .i64 0]) ∧ Below w.heap.size w w' := by
  have HP := Lib.hid (fun W => planImmortal_any P W h)
  obtain ⟨s, t, i, m⟩ := P
  obtain ⟨h1, h2, h3, h4, h5, h6, h7, h8, h9, h10⟩ := h
  dsimp only at h1 h2 h3 h4 h5 h6 h7 h8 h9 h10
  have HR := Lib.hid (show ((w.alloc (.cells #[.int .i64 s, .int .i64 t, .int .i64 i, .int .i64 m] 23)).alloc (.cells #[.int .i64 0, .int .i64 0] 32)).heap[w.heap.size]? = some (.cells #[.int .i64 s, .int .i64 t, .int .i64 i, .int .i64 m] 23 (0, 0)) from row_alloc (row_new w _ _))
  have HR2 := Lib.hid (show ((w.alloc (.cells #[.int .i64 s, .int .i64 t, .int .i64 i, .int .i64 m] 23)).alloc (.cells #[.int .i64 0, .int .i64 0] 32)).heap[w.heap.size + 1]? = some (.cells #[.int .i64 0, .int .i64 0] 32 (0, 0)) from heap_at (by simp))
  have B0 : Below w.heap.size w ((w.alloc (.cells #[.int .i64 s, .int .i64 t, .int .i64 i, .int .i64 m] 23)).alloc (.cells #[.int .i64 0, .int .i64 0] 32)) := by go_grown
  clear h9 h10
  go_enter Try.func39, Try.ntmps39
  go_wp2_with (go_at_call 38; refine (HP.out _).mono ?_; rintro r w1 ⟨rfl, hb⟩; have B1 := below_only B0 hb; obtain ⟨q0, q1, q2, q3, g0, g1, g2, g3⟩ := box4 (row_below HR.out hb); obtain ⟨r0, r1, f0, f1⟩ := box2 (row_below HR2.out hb); have hlt := lt_of_cell r0; have hlt0 := lt_of_cell q0)
  obtain ⟨c0, c1, _, _⟩ := box2 (row_alloc (o' := .cells #[.int .i64 (s * 64), .int .i64 i] 32) (row_two (row_below HR2.out hb) (.int .i64 (s * 64 + i)) (.int .i64 m)))
  refine bodyPost_ret (by simp [results, Try.results39, go_sem, c0, c1]; rfl) rfl ?_
  exact ⟨rfl, by go_grown⟩

set_option maxHeartbeats 1000000 in
theorem fit_plan (P : Pln) (w : World) : Calls Try.prog 11 #[P.val] w fun r w' => r = .returned (fitP P).val ∧ Below w.heap.size w w' := by
  obtain ⟨s, t, i, m⟩ := P
  have e1 : bits .and .i64 s 7 = s % 8 := mask3 s
  have e2 : bits .and .i64 t 3 = t % 4 := mask2 t
  have e3 : bits .and .i64 i 63 = i % 64 := i64_mask 6 i 63 (by omega) rfl
  have e4 : bits .and .i64 m 127 = m % 128 := i64_mask 7 m 127 (by omega) rfl
  have b1 : 0 ≤ s % 8 ∧ s % 8 ≤ 7 := by omega
  have b2 : 0 ≤ t % 4 ∧ t % 4 ≤ 3 := by omega
  have b3 : 0 ≤ i % 64 ∧ i % 64 ≤ 63 := by omega
  have b4 : 0 ≤ m % 128 ∧ m % 128 ≤ 127 := by omega
  rw [show fitP ⟨s, t, i, m⟩ = ⟨1 + bits .and .i64 s 7, 1 + bits .and .i64 t 3, 8 * bits .and .i64 i 63, 8 * bits .and .i64 m 127⟩ by rw [e1, e2, e3, e4]; rfl]
  rw [← e1] at b1
  rw [← e2] at b2
  rw [← e3] at b3
  rw [← e4] at b4
  clear e1 e2 e3 e4
  go_enter Try.func11, Try.ntmps11
  go_wp2
  go_returns
  exact ⟨rfl, by go_grown⟩

set_option maxHeartbeats 1000000 in
theorem heap_plan (P : Pln) (w : World) (h : PlnOk P) : Calls Try.prog 13 #[P.val] w fun r w' => r = .returned (.agg #[.int .i64 (P.s * 64 + P.i), .int .i64 P.h]) ∧ Below w.heap.size w w' := by
  obtain ⟨s, t, i, m⟩ := P
  obtain ⟨h1, h2, h3, h4, h5, h6, h7, h8, h9, h10⟩ := h
  dsimp only at h1 h2 h3 h4 h5 h6 h7 h8 h9 h10
  clear h9 h10
  rw [Int.mul_comm]
  go_enter Try.func13, Try.ntmps13
  go_wp2
  go_returns
  exact ⟨rfl, by go_grown⟩
set_option maxHeartbeats 1000000 in
theorem immortal_plan (P : Pln) (w : World) (h : PlnOk P) : Calls Try.prog 36 #[P.val] w fun r w' => r = .returned (.agg #[.int .i64 (P.s * 64), .int .i64 P.i]) ∧ Below w.heap.size w w' := by
  obtain ⟨s, t, i, m⟩ := P
  obtain ⟨h1, h2, h3, h4, h5, h6, h7, h8, h9, h10⟩ := h
  dsimp only at h1 h2 h3 h4 h5 h6 h7 h8 h9 h10
  clear h9 h10
  rw [Int.mul_comm]
  go_enter Try.func36, Try.ntmps36
  go_wp2
  go_returns
  exact ⟨rfl, by go_grown⟩

def scZero : Sc := ⟨⟨0, 0, 0, 0⟩, (0, 0)⟩
def scFree : Sc := ⟨⟨0, 0, -1, 0⟩, (0, 0)⟩
/-- what all is in the beginning -/
def newS (P : Pln) : Sco := ⟨⟨⟨2, 1, -1, 0⟩, (P.s * 64, P.i)⟩ :: List.replicate (P.s.toNat - 1) scFree, oneExt (P.s * 64 + P.i) P.h⟩

theorem infoSc : (Try.prog.info? 72).map (fun i => (i.zero, i.size, i.bytes)) = some (some (.agg #[.int .i64 0, .int .i64 0, .int .i64 0, .int .i64 0, .int .i64 0, .int .i64 0]), 6, 48) := by kernel_rfl
theorem made_scs (m : Nat) : madeCells (Value.agg #[.int .i64 0, .int .i64 0, .int .i64 0, .int .i64 0, .int .i64 0, .int .i64 0]).cells (m * 6) = ((List.replicate m scZero).flatMap scCells).toArray := by
  apply Array.ext'
  apply List.ext_getElem?
  intro i
  by_cases h : i < m * 6
  · have hj : i % 6 < 6 := Nat.mod_lt _ (by omega)
    have hk : i / 6 < m := by omega
    have hi : i / 6 * 6 + i % 6 = i := by omega
    have h1 := scs_get (List.replicate m scZero) (i / 6) (i % 6) hj
    rw [hi, List.getElem?_replicate, if_pos hk] at h1
    rw [List.toList_toArray, h1]
    simp only [madeCells, Value.cells, Array.toList_map, List.getElem?_map, Array.toList_range, List.getElem?_range h, Option.map_some, Option.bind_some]
    generalize i % 6 = j at hj
    match j, hj with
    | 0, _ => rfl
    | 1, _ => rfl
    | 2, _ => rfl
    | 3, _ => rfl
    | 4, _ => rfl
    | 5, _ => rfl
  · rw [List.getElem?_eq_none (by simp [madeCells]; omega), List.getElem?_eq_none (by rw [List.toList_toArray, scs_len, List.length_replicate]; omega)]

theorem Gr.lower {B B' p : Nat} {w : World} {f e : Int} {l : List Ext} {q : Option Nat} (h : Gr B' w p f e l q) (hB : B ≤ B') : Gr B w p f e l q := by
  obtain ⟨A, c, h1, h2, h3⟩ := h.mem
  exact { h with mem := ⟨A, c, h1, own_mono h2 hB, h3⟩, low := Nat.le_trans hB h.low }

set_option maxRecDepth 100000 in
set_option maxHeartbeats 1000000 in
theorem snew_any (P : Pln) (w : World) (h : PlnOk P) :
    Calls Try.prog 12 #[P.val] w fun r w' => ∃ p b g q, r = .returned (.tuple #[.pointer (some ⟨p, 0, none⟩), .int .i64 0]) ∧ Scs w.heap.size w' p b g q (P.s * 64 + P.i) (P.s * 64 + P.i + P.h) (newS P) ∧ Below w.heap.size w w' := by
  have HPR := Lib.hid (fun W => planRight_any P W h)
  have HPI := Lib.hid (fun W => planImmortal_any P W h)
  have HPH := Lib.hid (fun W => planHeap_any P W h)
  obtain ⟨s, t, i, m⟩ := P
  obtain ⟨n, rfl⟩ : ∃ n : Nat, s = n := ⟨s.toNat, by have := h.1; dsimp only at this; omega⟩
  obtain ⟨h1, h2, h3, h4, h5, h6, h7, h8, h9, h10⟩ := h
  dsimp only at h1 h2 h3 h4 h5 h6 h7 h8 h9 h10
  have n8 : n ≤ 8 := by omega
  obtain ⟨i0, hi0, hz0, hz1, hz2⟩ := info_parts infoSc
  have hmk := fun W => run_make_rowN (P := Try.prog) 67 72 i0 (.agg #[.int .i64 0, .int .i64 0, .int .i64 0, .int .i64 0, .int .i64 0, .int .i64 0]) Try.underlying67 hi0 hz0 .i64 .i64 n n (Nat.le_refl _) (by rw [hz2]; omega) (by omega) W
  rw [hz1, made_scs n] at hmk
  have hmay : newMay (n * 64 + i) m = true := by
    simp only [newMay, inB, Bool.and_eq_true, decide_eq_true_eq]
    omega
  have HM := Lib.hid hmay
  have HR := Lib.hid (row_new w #[.int .i64 n, .int .i64 t, .int .i64 i, .int .i64 m] 23)
  have B0 : Below w.heap.size w (w.alloc (.cells #[.int .i64 n, .int .i64 t, .int .i64 i, .int .i64 m] 23)) := by go_grown
  clear h9 h10 hmay
  go_enter Try.func12, Try.ntmps12
  go_wp2_with (go_at_call 37; refine (HPR.out _).mono ?_; rintro r w1 ⟨rfl, hb⟩; have HB0 := Lib.hid (below_only B0 hb); have R1 := Lib.hid (row_below HR.out hb); obtain ⟨q0, q1, q2, q3, g0, g1, g2, g3⟩ := box4 R1.out; clear hb)
  have R1p := row_below R1.out (show Below w1.heap.size w1 ((w1.alloc (.cells ((List.replicate n scZero).flatMap scCells).toArray 72)).alloc (.cells #[.slice (some ⟨w1.heap.size, 0, none⟩) n n, .pointer none] 70)) by go_grown)
  have hw1 : w.heap.size < w1.heap.size := lt_of_heap R1.out
  go_loopw [5, 21] (fun _ t wr => ∃ (k : Nat) (l : List Sc), k ≤ n ∧ t = .int .i64 k ∧ l.length = n ∧ (∀ j, j < k → l[j]? = some scFree) ∧ (∀ j, k ≤ j → j < n → l[j]? = some scZero) ∧
      wr.heap[w1.heap.size]? = some (.cells (l.flatMap scCells).toArray 72 (0, 0)) ∧ wr.heap[w1.heap.size + 1]? = some (.cells #[.slice (some ⟨w1.heap.size, 0, none⟩) n n, .pointer none] 70 (0, 0)) ∧ Below w1.heap.size w1 wr)
    (fun _ t _ => n - (intOf t).toNat)
  case atStart =>
    refine ⟨0, List.replicate n scZero, Nat.zero_le _, rfl, by simp, by omega, fun j _ hj => by rw [List.getElem?_replicate, if_pos hj], row_alloc (row_new _ _ _), heap_at (by simp), by go_grown⟩
  case round =>
    obtain ⟨k, l, hk, rfl, hl, hfr, hze, hr, hd, hb⟩ := hrel
    have Hl := Lib.hid hl
    have Hfr := Lib.hid hfr
    have Hze := Lib.hid hze
    have Hr := Lib.hid hr
    have Hd := Lib.hid hd
    have Hb := Lib.hid hb
    have hbr := lt_of_heap hd
    obtain ⟨d0, d1, df0, df1⟩ := box2 hd
    clear hl hfr hze hr hd hb R1p
    by_cases hlt : k < n
    · have hs := Hze.out k (Nat.le_refl _) hlt
      obtain ⟨c0, c1, c2, c3, c4, c5⟩ := scs_cells Hr.out hs
      have cf := row_frozen Hr.out (k * 6 + 2)
      go_wp2
      go_roundw
      case rel =>
        refine ⟨k + 1, l.set k scFree, hlt, by go_num, by rw [List.length_set]; exact Hl.out, fun j hj => ?_, fun j h1 h2 => ?_, scs_store Hr.out hs 2 (by omega) (.int .i64 (-1)) scFree rfl, (Below.heap_setCell _ _ _ _ (by simp)).trans Hd.out, Hb.out.setCell (Nat.le_refl _) _⟩
        · rw [List.getElem?_set]
          split
          · rw [if_pos (by rw [Hl.out]; omega)]
          · exact Hfr.out j (by omega)
        · rw [List.getElem?_set, if_neg (by omega)]
          exact Hze.out j (by omega) h2
      case measure => simp [intOf]; omega
    · obtain rfl : k = n := by omega
      obtain rfl : l = List.replicate k scFree := by
        apply List.ext_getElem?
        intro j
        rw [List.getElem?_replicate]
        split
        · rename_i h
          exact Hfr.out j h
        · rename_i h
          rw [List.getElem?_eq_none (by rw [Hl.out]; omega)]
      have hs : (List.replicate k scFree)[0]? = some scFree := by rw [List.getElem?_replicate, if_pos (by omega)]
      have hs1 : ((List.replicate k scFree).set 0 ⟨⟨2, 1, -1, 0⟩, (0, 0)⟩)[0]? = some ⟨⟨2, 1, -1, 0⟩, (0, 0)⟩ := by rw [List.getElem?_set]; simp; omega
      obtain ⟨c0, c1, c2, c3, c4, c5⟩ := scs_cells Hr.out hs
      simp only [Nat.zero_mul, Nat.zero_add] at c0 c1 c2 c3 c4 c5
      have cf : ∀ j, wr.frozen? ⟨w1.heap.size, j, none⟩ = false := fun j => row_frozen Hr.out j
      have hk0 : (0 : Int) < (k : Int) := by omega
      have hkn : 0 < k := by omega
      have hkne : (k = 0) = False := by simp; omega
      have Hs1 := Lib.hid hs1
      have Hs := Lib.hid hs
      clear hs hs1
      go_wp2_with fail
      have hR2 : ((((wr.setCell ⟨w1.heap.size, 0, none⟩ (.int .i64 2)).setCell ⟨w1.heap.size, 1, none⟩ (.int .i64 1)).setCell ⟨w1.heap.size, 2, none⟩ (.int .i64 (-1))).setCell ⟨w1.heap.size, 3, none⟩ (.int .i64 0)).heap[w1.heap.size]? = some (.cells (((List.replicate k scFree).set 0 ⟨⟨2, 1, -1, 0⟩, (0, 0)⟩).flatMap scCells).toArray 72 (0, 0)) := scs_four (k := 0) Hr.out Hs.out ⟨2, 1, -1, 0⟩
      have hK2 := (Keep.refl [w1.heap.size] wr).four (b := w1.heap.size) (by simp) 0 1 2 3 (.int .i64 2) (.int .i64 1) (.int .i64 (-1)) (.int .i64 0)
      have hB2 := (((Hb.out.setCell (p := ⟨w1.heap.size, 0, none⟩) (Nat.le_refl _) (.int .i64 2)).setCell (p := ⟨w1.heap.size, 1, none⟩) (Nat.le_refl _) (.int .i64 1)).setCell (p := ⟨w1.heap.size, 2, none⟩) (Nat.le_refl _) (.int .i64 (-1))).setCell (p := ⟨w1.heap.size, 3, none⟩) (Nat.le_refl _) (.int .i64 0)
      generalize ((((wr.setCell ⟨w1.heap.size, 0, none⟩ (.int .i64 2)).setCell ⟨w1.heap.size, 1, none⟩ (.int .i64 1)).setCell ⟨w1.heap.size, 2, none⟩ (.int .i64 (-1))).setCell ⟨w1.heap.size, 3, none⟩ (.int .i64 0)) = w2 at hR2 hK2 hB2 ⊢
      have hD2 := hK2.row Hd.out (by simp)
      have HR2 := Lib.hid hR2
      have HD2 := Lib.hid hD2
      have HB2 := Lib.hid hB2
      have HP2 := Lib.hid (row_below R1.out hB2)
      clear d0 d1 df0 df1 c0 c1 c2 c3 c4 c5 cf hR2 hK2 hB2 hD2
      obtain ⟨d0, d1, df0, df1⟩ := box2 HD2.out
      obtain ⟨p0, p1, p2, p3, _, _, _, _⟩ := box4 HP2.out
      clear q0 q1 q2 q3 g0 g1 g2 g3
      go_region_held3 (fun W => W.cell? ⟨w1.heap.size + 1, 0, none⟩ = some (.slice (some ⟨w1.heap.size, 0, none⟩) k k) ∧ W.cell? ⟨w.heap.size, 0, none⟩ = some (.int .i64 k) ∧ W.cell? ⟨w.heap.size, 1, none⟩ = some (.int .i64 t) ∧ W.cell? ⟨w.heap.size, 2, none⟩ = some (.int .i64 i) ∧ W.cell? ⟨w.heap.size, 3, none⟩ = some (.int .i64 m)) (refine And.intro ?_ (And.intro ?_ (And.intro ?_ (And.intro ?_ ?_))) <;> first | assumption | exact (World.cell?_setCell_far _ _ _ _ (by dsimp only; omega)).trans ((World.cell?_setCell_far _ _ _ _ (by dsimp only; omega)).trans (by assumption)))
        ((go_at_call 38; refine (HPI.out _).mono ?_; rintro r w3 ⟨rfl, hb3⟩; have HB3 := Lib.hid (HB2.out.drew.trans (hb3.mono HB2.out.size)); have HR3 := Lib.hid (row_below (heap_drew HR2.out) hb3); have HD3 := Lib.hid (row_below (heap_drew HD2.out) hb3); have HP3 := Lib.hid (row_below (heap_drew HP2.out) hb3); obtain ⟨d0', d1', df0', df1'⟩ := box2 HD3.out; obtain ⟨p0', p1', p2', p3', _, _, _, _⟩ := box4 HP3.out; obtain ⟨c0, c1, c2, c3, c4, c5⟩ := scs_cells HR3.out Hs1.out; simp only [Nat.zero_mul, Nat.zero_add] at c0 c1 c2 c3 c4 c5; have cf : ∀ j, w3.frozen? ⟨w1.heap.size, j, none⟩ = false := fun j => row_frozen HR3.out j; have hlt3 := lt_of_heap HD3.out; clear hb3))
      rename_i hHeld
      clear hHeld
      have get : ∀ s : Sc, ((List.replicate k scFree).set 0 s)[0]? = some s := fun s => by rw [List.getElem?_set]; simp; omega
      have hR4 : ((w3.setCell ⟨w1.heap.size, 4, none⟩ (.int .i64 ((k : Int) * 64))).setCell ⟨w1.heap.size, 5, none⟩ (.int .i64 i)).heap[w1.heap.size]? = some (.cells (((List.replicate k scFree).set 0 ⟨⟨2, 1, -1, 0⟩, ((k : Int) * 64, i)⟩).flatMap scCells).toArray 72 (0, 0)) := by
        have h4 := scs_store HR3.out Hs1.out 4 (by omega) (.int .i64 ((k : Int) * 64)) ⟨⟨2, 1, -1, 0⟩, ((k : Int) * 64, 0)⟩ rfl
        rw [List.set_set] at h4
        have h5 := scs_store h4 (get _) 5 (by omega) (.int .i64 i) ⟨⟨2, 1, -1, 0⟩, ((k : Int) * 64, i)⟩ rfl
        rw [List.set_set] at h5
        simpa only [Nat.zero_mul, Nat.zero_add] using h5
      have hK4 := ((Keep.refl [w1.heap.size] w3).setCell (p := ⟨w1.heap.size, 4, none⟩) (.inl (by simp)) (.int .i64 ((k : Int) * 64))).setCell (p := ⟨w1.heap.size, 5, none⟩) (.inl (by simp)) (.int .i64 i)
      have hB4 := (HB3.out.setCell (p := ⟨w1.heap.size, 4, none⟩) (Nat.le_refl _) (.int .i64 ((k : Int) * 64))).setCell (p := ⟨w1.heap.size, 5, none⟩) (Nat.le_refl _) (.int .i64 i)
      generalize ((w3.setCell ⟨w1.heap.size, 4, none⟩ (.int .i64 ((k : Int) * 64))).setCell ⟨w1.heap.size, 5, none⟩ (.int .i64 i)) = w4 at hR4 hK4 hB4 ⊢
      have hD4 := hK4.row HD3.out (by simp)
      have hP4 := hK4.row HP3.out (by simp; omega)
      have HR4 := Lib.hid hR4
      have HD4 := Lib.hid hD4
      have HP4 := Lib.hid hP4
      have HB4 := Lib.hid hB4
      clear d0 d1 df0 df1 p0 p1 p2 p3 d0' d1' df0' df1' p0' p1' p2' p3' c0 c1 c2 c3 c4 c5 cf hlt3 hR4 hK4 hB4 hD4 hP4 get
      obtain ⟨p0, p1, p2, p3, _, _, _, _⟩ := box4 HP4.out
      go_wp2_with (first
        | (go_at_call 39; refine (HPH.out _).mono ?_; rintro r w5 ⟨rfl, hb5⟩; have HB5 := Lib.hid (HB4.out.trans (hb5.mono HB4.out.size)); have HR5 := Lib.hid (row_below HR4.out hb5); have HD5 := Lib.hid (row_below HD4.out hb5); have hlt5 := lt_of_heap HD5.out; clear p0 p1 p2 p3 hb5)
        | (go_at_call 40; refine (new_good _ _ _ HM.out).mono ?_; rintro r w6 ⟨g, q, rfl, hG, hb6⟩; have hA5 := (show Below w5.heap.size w5 (w5.alloc (.cells #[.int .i64 ((k : Int) * 64 + i), .int .i64 m] 32)) by go_grown); have HB6 := Lib.hid (HB5.out.trans ((below_only hA5 hb6).mono HB5.out.size)); have HR6 := Lib.hid (row_below HR5.out (below_only hA5 hb6)); have HD6 := Lib.hid (row_below HD5.out (below_only hA5 hb6)); obtain ⟨d0, d1, df0, df1⟩ := box2 HD6.out; have HG := Lib.hid hG; have hlt6 := lt_of_heap HD6.out; clear hb6 hG hA5))
      go_ret2
      have hG := HG.out
      have hsz : (w5.alloc (.cells #[.int .i64 ((k : Int) * 64 + i), .int .i64 m] 32)).heap.size = w5.heap.size + 1 := by simp
      have hgl := hG.low
      rw [hsz] at hgl
      have hql : ∀ j, q = some j → w5.heap.size + 1 ≤ j := fun j hj => by
        have := (hG.lt.2 j hj).2
        rw [hsz] at this
        exact this
      have hK := (Keep.refl [w1.heap.size + 1] w6).setCell (p := ⟨w1.heap.size + 1, 1, none⟩) (.inl (by simp)) (.pointer (some ⟨g, 0, none⟩))
      have hhd : (w6.setCell ⟨w1.heap.size + 1, 1, none⟩ (.pointer (some ⟨g, 0, none⟩))).heap[w1.heap.size + 1]? = some (.cells #[.slice (some ⟨w1.heap.size, 0, none⟩) k k, .pointer (some ⟨g, 0, none⟩)] 70 (0, 0)) := by
        have := row_set (i := 1) HD6.out (.pointer (some ⟨g, 0, none⟩))
        simpa using this
      have hnew : newS ⟨k, t, i, m⟩ = ⟨(List.replicate k scFree).set 0 ⟨⟨2, 1, -1, 0⟩, ((k : Int) * 64, i)⟩, oneExt ((k : Int) * 64 + i) m⟩ := by
        obtain ⟨j, rfl⟩ : ∃ j, k = j + 1 := ⟨k - 1, by omega⟩
        simp only [newS, Int.toNat_natCast, Nat.add_sub_cancel, List.replicate_succ, List.set_cons_zero]
      have hlen : ((List.replicate k scFree).set 0 ⟨⟨2, 1, -1, 0⟩, ((k : Int) * 64, i)⟩).length = k := by simp
      have hB0 := HB0.out
      refine ⟨w1.heap.size + 1, w1.heap.size, g, q, rfl, ?_, (hB0.trans ((HB6.out.setCell (p := ⟨w1.heap.size + 1, 1, none⟩) (by dsimp only; omega) _).mono hB0.size))⟩
      rw [hnew]
      exact {
        hd := by rw [hlen]; exact hhd
        row := hK.row HR6.out (by simp)
        gr := (hG.kept hK (by simp; omega) (fun j hj => by have := hql j hj; simp; omega)).lower (by rw [hsz]; omega)
        ne1 := by omega
        ne2 := by omega
        ne3 := by omega
        ne4 := fun e => by have := hql _ e; omega
        ne5 := fun e => by have := hql _ e; omega
        low := by omega
        lowb := by omega
        n1 := by rw [hlen]; omega
        n8 := by rw [hlen]; omega
        ok := fun s hs => by
          rcases mem_set_or hs with rfl | hs
          · exact ⟨(by decide : Right ⟨2, 1, -1, 0⟩), by dsimp only; omega, by dsimp only; omega⟩
          · rw [List.mem_replicate] at hs
            rw [hs.2]
            exact ⟨⟨by decide, by decide, .inl ⟨.inl rfl, rfl, rfl⟩⟩, by decide, by decide⟩ }

end Go.Proofs.Ytcicpfhbpcdjcaa
