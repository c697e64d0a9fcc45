/- The walks of slices.Clone at entries, chain.Push and chain.Pop. -/
import Derived.Test.YtaneokplagdcfaaChainA
import Derived.Deep.RegionHeld3
namespace Go.Proofs.Ytaneokplagdcfaa
open Go.RowKit

theorem infoEnt : (Try.prog.info? 66).map (fun i => (i.zero, i.size, i.bytes)) = some (some (.agg #[.int .i64 0, .bool false]), 2, 16) := by kernel_rfl

@[go_sem] theorem eqlEntsNil (w : World) (a : Option Addr) (n c n' c' : Nat) : (binOp .eql 26 (.slice a n c) (.slice none n' c')).run Try.prog w = .ok (.bool a.isNone) w :=
  Lib.run_eql_slice_nil w _ _ a n c n' c' Try.underlying26

/-- what a function leaves that hands back entries of its own -/
abbrev NewEnts (w : World) (l : List Ent) (v : Value) (w' : World) : Prop := NewRow w l.length (l.flatMap entCells) v w'

set_option maxRecDepth 100000 in
set_option maxHeartbeats 400000 in
theorem clone_any (A : Option Addr) (c : Nat) (l : List Ent) (w : World) (hl : l.length ≤ 1048576) (he : Ents w A l) :
    Calls Try.prog 25 #[.slice A l.length c] w fun e w' => ∃ v, e = .returned v ∧ NewEnts w l v w' := by
  cases A with
  | none =>
    obtain rfl : l = [] := by
      cases l with
      | nil => rfl
      | cons a l => obtain ⟨b, off, h, _⟩ := he.at_ (by simp); cases h
    go_enter Try.func25, Try.ntmps25
    go_wp2
    go_ret
    exact ⟨_, rfl, newRow_nil w⟩
  | some a =>
    obtain ⟨i0, hi0, hz0, hz1, hz2⟩ := info_parts infoEnt
    go_enter Try.func25, Try.ntmps25
    go_wp2_with (at_builtin; refine wpList_append_any _ rfl _ _ _ rfl w.heap.size 66 i0 _ 2 16 Try.underlying26 hi0 hz0 hz1 hz2 rfl (by omega) (.slice (some ⟨w.heap.size, 0, none⟩) 0 0) 0 [] rfl (World.ownsRow_lit (e := 66) _ _ 0 (Nat.le_refl _) (by simp [maxLen]) rfl) (some a) l.length c (l.flatMap entCells) rfl (ents_len l) (Cells.alloc he _) (flat_one _ entCells_one l) (by simp only [maxLen]; omega) (by omega) (by simp) ?_; intro v1 w1 hown hg hat)
    go_ret
    exact ⟨_, rfl, newRow_of_own hown (by simp) (by simp) (Nat.le_refl _) (((Below.refl _ _).alloc (Nat.le_refl _) _).grown hg (by simp) (by simp [Value.ownBlock]))⟩

set_option maxRecDepth 100000 in
set_option maxHeartbeats 400000 in
theorem pop_none (A : Option Addr) (c : Nat) (w : World) :
    Calls Try.prog 55 #[.slice A 0 c] w fun e w' => e = .returned (.tuple #[.slice none 0 0, .agg #[.int .i64 0, .bool false], .int .i64 23]) ∧ Below w.heap.size w w' := by
  go_enter Try.func55, Try.ntmps55
  go_wp2
  go_returns
  exact ⟨rfl, by go_grown⟩

set_option maxRecDepth 100000 in
set_option maxHeartbeats 400000 in
theorem pop_some (A : Option Addr) (c : Nat) (l : List Ent) (s : Int) (x : Bool) (w : World) (hl : l.length ≤ 1048576) (hc : l.length < c) (he : Ents w A (l ++ [(s, x)])) :
    Calls Try.prog 55 #[.slice A (l.length + 1) c] w fun e w' => ∃ v, e = .returned (.tuple #[v, .agg #[.int .i64 s, .bool x], .int .i64 0]) ∧ NewEnts w l v w' := by
  have he' := Ents.take he l.length
  rw [List.take_left] at he'
  obtain ⟨b, off, rfl, hb, hcell⟩ := he.at_ (by simp)
  obtain ⟨h0, h1⟩ := hcell l.length s x (by simp)
  clear hcell he
  have i0 : (0 : Int) ≤ (l.length : Int) := by omega
  have i1 : (l.length : Int) < (l.length : Int) + 1 := by omega
  have i2 : (l.length : Int) ≤ (c : Int) := by omega
  go_enter Try.func55, Try.ntmps55
  go_wp2
  go_region_held3 (Old w) ((go_split_ands; refine old_of ?_; go_grown))
    (first | (go_at_call 25; refine (clone_any _ _ l _ hl (Cells.drew (Cells.alloc he' _))).mono ?_; rintro e w1 ⟨v, rfl, A1, c1, rfl, hc1, hcs, hnew, hb1⟩; have q0 : w1.cell? ⟨w.heap.size, 0, none⟩ = some (.int .i64 0) := cell_later hb1 (by simp [go_sem]); have q1 : w1.cell? ⟨w.heap.size, 1, none⟩ = some (.bool false) := cell_later hb1 (by simp [go_sem]); have f0 : ∀ j, w1.frozen? ⟨w.heap.size, j, none⟩ = false := fun j => (hb1.frozen (p := ⟨w.heap.size, j, none⟩) (by simp)).trans (by simp [go_sem]); have hbw : Below w.heap.size w w1 := below_only (((Below.refl _ _).alloc (Nat.le_refl _) _).drew) hb1))
  go_wp2
  refine bodyPost_ret (by simp [results, Try.results55, go_sem, q0, q1]; rfl) rfl ?_
  have hne : ∀ a, A1 = some a → a.block ≠ w.heap.size := fun a ha => by have := hnew a ha; simp at this; omega
  exact ⟨_, rfl, A1, c1, rfl, hc1, (hcs.setCell hne _).setCell hne _, fun a ha => by have := hnew a ha; simp at this; omega, by go_grown⟩

set_option maxRecDepth 100000 in
set_option maxHeartbeats 400000 in
theorem push_deep (A : Option Addr) (c n : Nat) (s : Int) (x : Bool) (w : World) (hn : 6 ≤ n) (hm : n ≤ 1048576) :
    Calls Try.prog 50 #[.slice A n c, .agg #[.int .i64 s, .bool x]] w fun e w' => e = .returned (.tuple #[.slice none 0 0, .int .i64 24]) ∧ Below w.heap.size w w' := by
  go_enter Try.func50, Try.ntmps50
  go_wp2
  go_returns
  exact ⟨rfl, by go_grown⟩

set_option maxRecDepth 100000 in
set_option maxHeartbeats 400000 in
theorem push_some (A : Option Addr) (c : Nat) (l : List Ent) (s : Int) (x : Bool) (w : World) (hl : l.length < 6) (he : Ents w A l) :
    Calls Try.prog 50 #[.slice A l.length c, .agg #[.int .i64 s, .bool x]] w fun e w' => ∃ v, e = .returned (.tuple #[v, .int .i64 0]) ∧ NewEnts w (l ++ [(s, x)]) v w' := by
  obtain ⟨i0, hi0, hz0, hz1, hz2⟩ := info_parts infoEnt
  have he' : Cells w A (l.flatMap entCells) := he
  have hmin : Nat.min l.length (l.length + 1) = l.length := Nat.min_eq_left (Nat.le_succ _)
  go_enter Try.func50, Try.ntmps50
  go_wp2_with (first
    | (at_make; refine wpList_make_row _ rfl _ _ _ rfl 66 i0 _ 2 16 Try.underlying26 hi0 hz0 hz1 hz2 _ _ (l.length + 1) rfl rfl (by omega) (by omega) (by omega) (by omega) ?_; intro hsz; generalize madeCells _ _ = cur at hsz ⊢)
    | (with_reducible refine wpList_copy_any rfl (.tmp 14) (.tmp 15) _ _ rfl _ i0 2 Try.underlying26 hi0 hz1 (w.heap.size + 1) 0 (l.length + 1) (l.length + 1) A l.length c rfl rfl cur.toList 66 (by rw [Array.toArray_toList]; simpa using row_new (w.alloc (.cells #[.int .i64 s, .bool x] 66)) cur 66) (l.flatMap entCells) l.length hmin (ents_len l) (Cells.alloc (Cells.alloc he' _) _) (by rw [ents_len, Array.length_toList (xs := cur)]; omega) (flat_one _ entCells_one l) ?_; intro w2 hrow hg2
       have q0 : w2.cell? ⟨w.heap.size, 0, none⟩ = some (.int .i64 s) := hg2.cell (by simp [go_sem]) (by simp)
       have q1 : w2.cell? ⟨w.heap.size, 1, none⟩ = some (.bool x) := hg2.cell (by simp [go_sem]) (by simp)
       rw [List.take_zero, List.nil_append, Nat.zero_add] at hrow
       have Hrow := Lib.hid hrow
       have f0 : ∀ j, w2.frozen? ⟨w.heap.size + 1, j, none⟩ = false := row_frozen hrow
       have hlen : (l.flatMap entCells ++ cur.toList.drop (l.flatMap entCells).length).length = (l.length + 1) * 2 := by rw [List.length_append, List.length_drop, ents_len, Array.length_toList (xs := cur)]; omega
       obtain ⟨u0, hu0⟩ : ∃ u, w2.cell? ⟨w.heap.size + 1, l.length * 2, none⟩ = some u := ⟨_, by rw [row_cell hrow, List.getElem?_toArray]; exact List.getElem?_eq_getElem (by omega)⟩
       obtain ⟨u1, hu1⟩ : ∃ u, w2.cell? ⟨w.heap.size + 1, l.length * 2 + 1, none⟩ = some u := ⟨_, by rw [row_cell hrow, List.getElem?_toArray]; exact List.getElem?_eq_getElem (by omega)⟩
       have Hlen := Lib.hid hlen
       clear hrow hlen))
  go_returns
  refine ⟨_, rfl, some ⟨w.heap.size + 1, 0, none⟩, l.length + 1, by simp, by simp, ?_, fun a ha => by injection ha with ha; subst ha; simp, ?_⟩
  · have r2 := row_set (i := l.length * 2 + 1) (row_set (i := l.length * 2) Hrow.out (.int .i64 s)) (.bool x)
    rw [store_two _ _ _ _ _ (ents_len l) (by rw [Hlen.out]; omega)] at r2
    refine Cells.of_row r2 (fun j v hv => ?_)
    rw [Nat.zero_add, List.getElem?_toArray]
    simpa [entCells] using hv
  · refine Below.setCell (Below.setCell ?_ (by simp) _) (by simp) _
    exact ⟨hg2.os, hg2.tape, hg2.output, Nat.le_trans (by simp; omega) hg2.size, fun k hk => (hg2.block k (by simp; omega) (by simp; omega)).trans (((Below.refl _ _).alloc (by simp) _).block k hk |>.trans (Below.heap_alloc w _ k hk))⟩

end Go.Proofs.Ytaneokplagdcfaa
