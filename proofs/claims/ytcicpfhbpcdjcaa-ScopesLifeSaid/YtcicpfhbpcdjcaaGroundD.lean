/- The walk of slices.Delete of one extent, in place. -/
import Derived.Test.YtcicpfhbpcdjcaaGroundC
namespace Go.Proofs.Ytcicpfhbpcdjcaa
open Go.RowKit

theorem flat_erase (l : List Ext) (i : Nat) : (l.eraseIdx i).flatMap extCells = (l.flatMap extCells).take (i * 2) ++ (l.drop (i + 1)).flatMap extCells := by
  rw [List.eraseIdx_eq_take_drop_succ, List.flatMap_append, flat_take extCells 2 extCells_length]

theorem zero_ext (w : World) : (zeroValue 32).run Try.prog w = .ok (.agg #[.int .i64 0, .int .i64 0]) w := by kernel_rfl

theorem zero_cells : (Builtin.zeroCells (Value.agg #[.int .i64 0, .int .i64 0]).cells 1).toList = [.int .i64 0, .int .i64 0] := by kernel_rfl
theorem zero_one : ∀ u ∈ (Builtin.zeroCells (Value.agg #[.int .i64 0, .int .i64 0]).cells 1).toList, u.oneCell' = true := by
  intro u hu
  rw [zero_cells] at hu
  simp only [List.mem_cons, List.not_mem_nil, or_false, or_self] at hu
  subst hu
  rfl

set_option maxRecDepth 100000 in
set_option maxHeartbeats 1000000 in
theorem delete_one (B k c i : Nat) (l : List Ext) (w : World) (hl : l.length ≤ 1048576) (hi : i < l.length) (h : w.ownsRow B 32 2 (.slice (some ⟨k, 0, none⟩) l.length c) l.length (l.flatMap extCells)) :
    Calls Try.prog 67 #[.slice (some ⟨k, 0, none⟩) l.length c, .int .i64 i, .int .i64 (i + 1)] w
      fun e w' => e = .returned (.slice (some ⟨k, 0, none⟩) (l.length - 1) c) ∧ w'.ownsRow B 32 2 (.slice (some ⟨k, 0, none⟩) (l.length - 1) c) (l.length - 1) ((l.eraseIdx i).flatMap extCells) ∧ Keep [k] w w' := by
  obtain ⟨i0, hi0, hz0, hz1, hz2⟩ := info_parts infoExt
  have hcells := Cells.of_own h
  obtain ⟨hlen, hh⟩ := h
  rcases hh with ⟨h0, _⟩ | ⟨g, cap, cur, hv, hBg, hg, hnc, hcm, hcs, hx⟩
  · cases h0
  injection hv with hv1 hv2 hv3
  injection hv1 with hv1
  injection hv1 with hv1
  subst hv1 hv3
  have b1 : (i : Int) < (l.length : Int) := by omega
  have b2 : (l.length : Int) ≤ (c : Int) := by omega
  have b3 : (l.length : Int) ≤ 1048576 := by omega
  have b4 : (i : Int) + 1 ≤ (l.length : Int) := by omega
  have b5 : (c : Int) ≤ 9223372036854775807 := by unfold maxLen at hcm; omega
  have b6 : i ≤ c := by omega
  have b7 : i + 1 ≤ l.length := by omega
  have b8 : i ≤ l.length := by omega
  have b9 : i + 1 ≤ c := by omega
  have b10 : 0 ≤ (i : Int) + 1 := by omega
  have hne : ((i : Int) == (i : Int) + 1) = false := by simp; omega
  have Hx := Lib.hid hx
  have Hg := Lib.hid hg
  have Hcs := Lib.hid hcs
  have Hlen := Lib.hid hlen
  have Hz := Lib.hid hz0
  clear hx hg hcs hlen
  have hnews : ((l.drop (i + 1)).flatMap extCells).length = (l.length - (i + 1)) * 2 := by rw [exts_len, List.length_drop]
  have hfit : i * 2 + ((l.drop (i + 1)).flatMap extCells).length ≤ cur.size := by rw [hnews, Hcs.out]; omega
  have hsub : i + (l.length - (i + 1)) = l.length - 1 := by omega
  have Hsub := Lib.hid hsub
  have Hnews := Lib.hid hnews
  have Hfit := Lib.hid hfit
  clear hsub hnews hfit
  have hdrop : Cells w (if c = i + 1 then some ⟨k, 0, none⟩ else some ⟨k, (i + 1) * 2, none⟩) ((l.drop (i + 1)).flatMap extCells) := by
    rw [flat_drop extCells 2 extCells_length]
    refine Cells.drop hcells (fun b off hlt he => ?_)
    rw [exts_len] at hlt
    injection he with he
    injection he with he1 he2
    subst he1 he2
    rw [if_neg (by omega), Nat.zero_add]
  go_enter Try.func67, Try.ntmps67
  go_wp2
  go_region_law ((refine step_append_in _ rfl (.tmp 22) (.tmp 25) _ (by rfl) 32 i0 2 Try.underlying46 hi0 hz1 (by omega) k i c cur (by rfl) Hg.out (if c = i + 1 then some ⟨k, 0, none⟩ else some ⟨k, (i + 1) * 2, none⟩) (l.length - (i + 1)) (c - (i + 1)) (by rfl) ((l.drop (i + 1)).flatMap extCells) Hnews.out (Cells.drew hdrop) (exts_one _) (by omega) Hfit.out ?_; intro w4 hg4 hb4))
  generalize (if c = i + 1 then some (⟨k, 0, none⟩ : Addr) else some ⟨k, (i + 1) * 2, none⟩) = adr at hdrop ⊢
  clear hdrop
  obtain ⟨m, Hm⟩ : ∃ m, Hid (l.length - 1 = m) := ⟨_, rfl⟩
  rw [Hsub.out, Hm.out]
  have Hm1 := Hm.out
  have m1 : (m : Int) ≤ (l.length : Int) := by omega
  have m2 : ¬ c = m := by omega
  have m3 : l.length - m = 1 := by omega
  have m4 : m ≤ c := by omega
  have m5 : m ≤ l.length := by omega
  have Hm2 := Lib.hid Hm1
  have hl3 : (cur.toList.take (i * 2) ++ (((l.drop (i + 1)).flatMap extCells) ++ cur.toList.drop (i * 2 + ((l.drop (i + 1)).flatMap extCells).length))).length = c * 2 := by
    rw [List.length_append, List.length_append, List.length_take, List.length_drop, Array.length_toList (xs := cur), Hcs.out, Hnews.out]
    omega
  have Hl3 := Lib.hid hl3
  have Hg4 := Lib.hid hg4
  clear Hm1 hl3 hg4
  have hf5 : m * 2 + 1 * (Value.agg #[.int .i64 0, .int .i64 0]).cells.size ≤ (cur.toList.take (i * 2) ++ (((l.drop (i + 1)).flatMap extCells) ++ cur.toList.drop (i * 2 + ((l.drop (i + 1)).flatMap extCells).length))).length := by
    rw [Hl3.out]
    show m * 2 + 1 * 2 ≤ c * 2
    omega
  have Hf5 := Lib.hid hf5
  clear hf5
  go_wp2_with ((with_reducible refine wpList_clear_in _ rfl (.tmp 31) _ rfl 32 (.agg #[.int .i64 0, .int .i64 0]) Try.underlying46 (zero_ext _) k (m * 2) 1 (c - m) _ rfl Hg4.out (by omega) Hf5.out zero_one ?_); intro w5 hg5 hb5)
  have Hg5 := Lib.hid hg5
  clear hg5
  go_wp2
  go_ret
  have hm := Hm.out
  refine ⟨by rw [hm]; rfl, ?_, ?_⟩
  · rw [hm]
    have hE : (l.eraseIdx i).flatMap extCells = cur.toList.take (i * 2) ++ (l.drop (i + 1)).flatMap extCells := by
      rw [flat_erase, ← Hx.out, List.take_take, Nat.min_eq_left (by omega)]
    have hEl : ((l.eraseIdx i).flatMap extCells).length = m * 2 := by rw [exts_len, List.length_eraseIdx, if_pos hi, hm]
    have h4 : (cur.toList.take (i * 2) ++ (((l.drop (i + 1)).flatMap extCells) ++ cur.toList.drop (i * 2 + ((l.drop (i + 1)).flatMap extCells).length))).take (m * 2) = (l.eraseIdx i).flatMap extCells := by
      rw [← List.append_assoc, ← hE, ← hEl, List.take_left]
    have hl3 := Hl3.out
    have hg5 := Hg5.out
    rw [zero_cells] at hg5
    generalize cur.toList.take (i * 2) ++ (((l.drop (i + 1)).flatMap extCells) ++ cur.toList.drop (i * 2 + ((l.drop (i + 1)).flatMap extCells).length)) = R at hg5 hl3 h4
    have ht : (R.take (m * 2)).length = m * 2 := by rw [List.length_take]; omega
    refine own_take hg5 hBg (c := c) (by omega) ?_ ?_ hcm
    · show (R.take (m * 2) ++ ([Value.int .i64 0, .int .i64 0] ++ R.drop (m * 2 + 1 * 2))).length = c * 2
      simp only [List.length_append, List.length_cons, List.length_nil, List.length_drop, ht]
      omega
    · rw [List.take_append_of_le_length (by omega), List.take_take, Nat.min_self, h4]
  · exact ((Keep.refl [k] w).drew.grown hb4 (by simp)).grown hb5 (by simp)

end Go.Proofs.Ytcicpfhbpcdjcaa
