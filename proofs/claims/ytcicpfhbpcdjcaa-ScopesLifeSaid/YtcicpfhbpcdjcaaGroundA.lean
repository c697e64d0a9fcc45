/- The walks of num.Within, slices.Clone at extents, and slices.IndexFunc at ground's two searches. -/
import Derived.Test.YtcicpfhbpcdjcaaGroundPlainB
import Derived.Test.YtcicpfhbpcdjcaaHeap
import Derived.Test.YtcicpfhbpcdjcaaCtlA
import Derived.Deep.RegionHeld3
namespace Go.Proofs.Ytcicpfhbpcdjcaa
open Go.RowKit

theorem infoExt : (Try.prog.info? 32).map (fun i => (i.zero, i.size, i.bytes)) = some (some (.agg #[.int .i64 0, .int .i64 0]), 2, 16) := by kernel_rfl

@[go_sem] theorem eqlExtsNil (w : World) (a : Option Addr) (n c n' c' : Nat) : (binOp .eql 46 (.slice a n c) (.slice none n' c')).run Try.prog w = .ok (.bool a.isNone) w :=
  Lib.run_eql_slice_nil w _ _ a n c n' c' Try.underlying46

abbrev Exts (w : World) (A : Option Addr) (l : List Ext) : Prop := Cells w A (l.flatMap extCells)
abbrev NewExts (w : World) (l : List Ext) (v : Value) (w' : World) : Prop := NewRow w l.length (l.flatMap extCells) v w'
theorem exts_at {w : World} {A : Option Addr} {l : List Ext} (h : Exts w A l) (h0 : 0 < l.length) : ∃ b off, A = some ⟨b, off, none⟩ ∧ b < w.heap.size ∧
    ∀ k x, l[k]? = some x → w.cell? ⟨b, off + k * 2, none⟩ = some (.int .i64 x.1) ∧ w.cell? ⟨b, off + k * 2 + 1, none⟩ = some (.int .i64 x.2) := by
  obtain ⟨b, off, e, hb, hc⟩ := Cells.at_ h (by rw [exts_len]; omega)
  refine ⟨b, off, e, hb, fun k x hk => ?_⟩
  have h1 := hc (k * 2 + 0) (.int .i64 x.1) (by rw [flat_get extCells 2 extCells_length l k 0 (by omega), hk]; rfl)
  have h2 := hc (k * 2 + 1) (.int .i64 x.2) (by rw [flat_get extCells 2 extCells_length l k 1 (by omega), hk]; rfl)
  exact ⟨by simpa using h1, by rw [Nat.add_assoc]; exact h2⟩

set_option maxHeartbeats 400000 in
theorem clone_any (A : Option Addr) (c : Nat) (l : List Ext) (w : World) (hl : l.length ≤ 1048576) (he : Exts w A l) :
    Calls Try.prog 69 #[.slice A l.length c] w fun e w' => ∃ v, e = .returned v ∧ NewExts w l v w' := by
  cases A with
  | none =>
    obtain rfl : l = [] := by
      cases l with
      | nil => rfl
      | cons a l => obtain ⟨b, off, h, _⟩ := exts_at he (by simp); cases h
    go_enter Try.func69, Try.ntmps69
    go_wp2
    go_ret
    exact ⟨_, rfl, newRow_nil w⟩
  | some a =>
    obtain ⟨i0, hi0, hz0, hz1, hz2⟩ := info_parts infoExt
    go_enter Try.func69, Try.ntmps69
    go_wp2_with (at_builtin; refine wpList_append_any _ rfl _ _ _ rfl w.heap.size 32 i0 _ 2 16 Try.underlying46 hi0 hz0 hz1 hz2 rfl (by omega) (.slice (some ⟨w.heap.size, 0, none⟩) 0 0) 0 [] rfl (World.ownsRow_lit (e := 32) _ _ 0 (Nat.le_refl _) (by simp [maxLen]) rfl) (some a) l.length c (l.flatMap extCells) rfl (exts_len l) (Cells.alloc he _) (exts_one l) (by simp only [maxLen]; omega) (by omega) (by simp) ?_; intro v1 w1 hown hg hat)
    go_ret
    exact ⟨_, rfl, newRow_of_own hown (by simp) (by simp) (Nat.le_refl _) (((Below.refl _ _).alloc (Nat.le_refl _) _).grown hg (by simp) (by simp [Value.ownBlock]))⟩

set_option maxHeartbeats 400000 in
theorem carve1_any (x : Ext) (B : Nat) (n : Int) (w : World) (hB : w.cell? ⟨B, 0, none⟩ = some (.int .i64 n)) :
    Calls Try.prog 66 #[.agg #[.int .i64 x.1, .int .i64 x.2], .pointer (some ⟨B, 0, none⟩)] w fun e w' => e = .returned (.bool (decide (n ≤ x.2))) ∧ Below w.heap.size w w' := by
  have hlt := lt_of_cell hB
  go_enter Try.func66, Try.ntmps66
  go_wp2
  go_ret
  exact ⟨rfl, by go_grown⟩

set_option maxHeartbeats 400000 in
theorem give1_any (x : Ext) (B : Nat) (n : Int) (w : World) (hB : w.cell? ⟨B, 0, none⟩ = some (.int .i64 n)) (h0 : -9223372036854775808 ≤ x.1 + x.2) (h1 : x.1 + x.2 ≤ 9223372036854775807) :
    Calls Try.prog 68 #[.agg #[.int .i64 x.1, .int .i64 x.2], .pointer (some ⟨B, 0, none⟩)] w fun e w' => e = .returned (.bool (decide (n < x.1 + x.2))) ∧ Below w.heap.size w w' := by
  have hlt := lt_of_cell hB
  go_enter Try.func68, Try.ntmps68
  go_wp2
  go_ret
  exact ⟨rfl, by go_grown⟩

end Go.Proofs.Ytcicpfhbpcdjcaa
