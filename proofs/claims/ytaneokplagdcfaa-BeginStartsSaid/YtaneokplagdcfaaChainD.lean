/- The walks of the reference's Push, Pop and Same for chains, and of the law's 'few'. -/
import Derived.Test.YtaneokplagdcfaaChainC
namespace Go.Proofs.Ytaneokplagdcfaa
open Go.RowKit

set_option maxRecDepth 100000 in
set_option maxHeartbeats 400000 in
theorem rpush_deep (A : Option Addr) (c n : Nat) (s : Int) (x : Bool) (w : World) (hn : 6 ≤ n) (hm : n ≤ 1048576) :
    Calls Try.prog 71 #[.slice A n c, .agg #[.int .i64 s, .bool x]] w fun e w' => e = .returned (.tuple #[.slice none 0 0, .int .i64 24]) ∧ Below w.heap.size w w' := by
  go_enter Try.func71, Try.ntmps71
  go_wp2
  go_returns
  exact ⟨rfl, by go_grown⟩

set_option maxRecDepth 100000 in
set_option maxHeartbeats 1000000 in
theorem rpush_some (A : Option Addr) (c : Nat) (l : List Ent) (s : Int) (x : Bool) (w : World) (hl : l.length < 6) (he : Cells w A (l.flatMap entCells)) :
    Calls Try.prog 71 #[.slice A l.length c, .agg #[.int .i64 s, .bool x]] w fun e w' => ∃ v, e = .returned (.tuple #[v, .int .i64 0]) ∧ NewEnts w (l ++ [(s, x)]) v w' := by
  obtain ⟨i0, hi0, hz0, hz1, hz2⟩ := info_parts infoEnt
  go_enter Try.func71, Try.ntmps71
  go_wp2
  go_region_held3 (Old (w.alloc (.cells #[.int .i64 s, .bool x] 66))) ((go_split_ands; refine old_of ?_; first | (go_grown; done) | (refine below_only ?_ (by assumption); go_grown; done)))
    (first
      | (refine step_append_any _ rfl (.tmp 9) (.tmp 10) _ (by rfl) (w.heap.size + 1) 66 i0 _ 2 16 Try.underlying26 hi0 hz0 hz1 hz2 rfl (by omega) _ 0 [] (by rfl) (own_empty ?_ ?_) A l.length c (l.flatMap entCells) (by rfl) (ents_len l) ?_ (flat_one _ entCells_one l) (by simp only [maxLen]; omega) (by omega) ?_ ?_
         · first | omega | (simp; done) | (simp; omega)
         · first | exact heap_drew (heap_at (by simp)) | exact heap_drew (heap_old (by simp) (heap_at (by simp)))
         · refine Cells.below he ?_; go_grown
         · first | omega | (simp; done) | (simp; omega)
         intro v1 w1 hown hg hat
         have hb1 : Below (w.alloc (.cells #[.int .i64 s, .bool x] 66)).heap.size (w.alloc (.cells #[.int .i64 s, .bool x] 66)) w1 := by
           refine Below.grown ?_ hg ?_ ?_
           · go_grown
           · simp
           · first | (simp [Value.ownBlock]; done) | (simp [Value.ownBlock]; omega)
         have hs1 := hb1.size)
      | (refine step_append_any _ rfl (.tmp 11) (.tmp 13) _ (by rfl) (w.heap.size + 1) 66 i0 _ 2 16 Try.underlying26 hi0 hz0 hz1 hz2 rfl (by omega) v1 (0 + l.length) ([] ++ l.flatMap entCells) (by rfl) ?_ _ 1 1 [.int .i64 s, .bool x] (by rfl) rfl (cells_two ?_ ?_) (entCells_one (s, x)) (by simp only [maxLen]; omega) (by omega) ?_ ?_
         · first | exact hown | exact hown.alloc _
         · first | (simp [go_sem]; done) | exact hg.cell (by simp [go_sem]; done) (by simp [Value.ownBlock]; done)
         · first | (simp [go_sem]; done) | exact hg.cell (by simp [go_sem]; done) (by simp [Value.ownBlock]; done)
         · have := hb1.size
           simp at this ⊢
           omega
         intro v2 w2 hown2 hg2 hat2
         have hb2 : Below (w.alloc (.cells #[.int .i64 s, .bool x] 66)).heap.size (w.alloc (.cells #[.int .i64 s, .bool x] 66)) w2 := by
           refine Below.grown ?_ hg2 ?_ (fun k hk => ?_)
           · go_grown
           · simp at hs1 ⊢; omega
           · have := (hown.lt k hk).1
             simp
             omega))
  all_goals go_wp2
  all_goals go_returns
  all_goals exact ⟨_, rfl, newRow_of_own hown2 (by simp) (by simp [entCells]) (by omega) (below_only (by go_grown) hb2)⟩

set_option maxRecDepth 100000 in
set_option maxHeartbeats 400000 in
theorem rpop_none (A : Option Addr) (c : Nat) (w : World) :
    Calls Try.prog 41 #[.slice A 0 c] w fun e w' => e = .returned (.tuple #[.slice none 0 0, .agg #[.int .i64 0, .bool false], .int .i64 23]) ∧ Below w.heap.size w w' := by
  go_enter Try.func41, Try.ntmps41
  go_wp2
  go_returns
  exact ⟨rfl, by go_grown⟩

set_option maxRecDepth 100000 in
set_option maxHeartbeats 1000000 in
theorem rpop_some (A : Option Addr) (c : Nat) (l : List Ent) (s : Int) (x : Bool) (w : World) (hl : l.length ≤ 1048576) (hc : l.length < c) (he : Ents w A (l ++ [(s, x)])) :
    Calls Try.prog 41 #[.slice A (l.length + 1) c] w fun e w' => ∃ v, e = .returned (.tuple #[v, .agg #[.int .i64 s, .bool x], .int .i64 0]) ∧ NewEnts w l v w' := by
  obtain ⟨i9, hi0, hz0, hz1, hz2⟩ := info_parts infoEnt
  have he' : Cells w A (l.flatMap entCells) := by
    have h := Ents.take he l.length
    rw [List.take_left] at h
    exact h
  obtain ⟨b, off, rfl, hb, hcell⟩ := he.at_ (by simp)
  obtain ⟨h0, h1⟩ := hcell l.length s x (by simp)
  clear hcell he
  have i0 : (0 : Int) ≤ (l.length : Int) := by omega
  have i1 : (l.length : Int) < (l.length : Int) + 1 := by omega
  have i2 : (l.length : Int) ≤ (c : Int) := by omega
  have i3 : IntKind.i64.wrap (l.length : Int) = l.length := IntWalk.i64_in _ (by omega)
  go_enter Try.func41, Try.ntmps41
  go_wp2
  go_region_held3 (Old w) ((go_split_ands; refine old_of ?_; go_grown))
    (first
      | (refine step_append_any _ rfl (.tmp 9) (.tmp 14) _ (by rfl) (w.heap.size + 1) 66 i9 _ 2 16 Try.underlying26 hi0 hz0 hz1 hz2 rfl (by omega) _ 0 [] (by rfl) (own_empty ?_ ?_) (some ⟨b, off, none⟩) l.length c (l.flatMap entCells) (by rfl) (ents_len l) ?_ (flat_one _ entCells_one l) (by simp only [maxLen]; omega) (by omega) ?_ ?_
         · first | omega | (simp; done) | (simp; omega)
         · first | exact heap_drew (heap_at (by simp)) | exact heap_drew (heap_old (by simp) (heap_at (by simp)))
         · refine Cells.below he' ?_; go_grown
         · first | omega | (simp; done) | (simp; omega)
         intro v1 w1 hown hg hat
         have q0 : w1.cell? ⟨w.heap.size, 0, none⟩ = some (.int .i64 0) := hg.cell (by simp [go_sem]) (by simp [Value.ownBlock])
         have q1 : w1.cell? ⟨w.heap.size, 1, none⟩ = some (.bool false) := hg.cell (by simp [go_sem]) (by simp [Value.ownBlock])
         have f0 : ∀ j, w1.frozen? ⟨w.heap.size, j, none⟩ = false := fun j => (World.frozen?_of_block (a := ⟨w.heap.size, j, none⟩) (hg.block _ (by simp; omega) (by simp [Value.ownBlock]))).trans (by simp [go_sem])
         have hb1 : Below w.heap.size w w1 := by
           refine Below.grown ?_ hg ?_ ?_
           · go_grown
           · first | (simp; done) | (simp; omega)
           · first | (simp [Value.ownBlock]; done) | (simp [Value.ownBlock]; omega)))
  go_wp2
  refine bodyPost_ret (by simp [results, Try.results41, go_sem, q0, q1]; rfl) rfl ?_
  obtain ⟨A1, c1, hv, hc1, hcs, hnew, _⟩ := newRow_of_own (w := w) (n' := l.length) hown (by simp) rfl (by omega) hb1
  have hne : ∀ a, A1 = some a → a.block ≠ w.heap.size := fun a ha => by
    have := (hown.lt a.block (by rw [hv, ha]; rfl)).1
    omega
  refine ⟨v1, rfl, A1, c1, hv, hc1, (hcs.setCell hne _).setCell hne _, hnew, by go_grown⟩

set_option maxRecDepth 100000 in
set_option maxHeartbeats 400000 in
theorem same_any (A B : Option Addr) (c d : Nat) (l m : List Ent) (w : World) (hl : l.length ≤ 9223372036854775807) (hm : m.length ≤ 9223372036854775807) (ha : Ents w A l) (hb : Ents w B m) :
    Calls Try.prog 19 #[.slice A l.length c, .slice B m.length d] w fun e w' => e = .returned (.bool (decide (l = m))) ∧ Below w.heap.size w w' := by
  by_cases hlen : l.length = m.length
  · have hlen' : ((l.length : Int) != (m.length : Int)) = false := by simp [hlen]
    have Hlen := Lib.hid hlen
    clear hlen
    go_enter Try.func19, Try.ntmps19
    go_wp2
    go_loopw [5] (fun t wr => ∃ k nq : Nat, k ≤ l.length ∧ t = .int .i64 k ∧ (∀ j, j < k → l[j]? = m[j]?) ∧ wr = w.drewN nq)
      (fun t _ => l.length - (intOf t).toNat)
    case atStart => exact ⟨0, 0, Nat.zero_le _, rfl, by simp, rfl⟩
    case round =>
      obtain ⟨k, nq, hk, rfl, hn, rfl⟩ := hrel
      by_cases hlt : k < l.length
      · have hlt' : k < m.length := by rw [← Hlen.out]; exact hlt
        obtain ⟨b, off, rfl, hb0, hc⟩ := ha.at_ (by omega)
        obtain ⟨b', off', rfl, hb0', hc'⟩ := hb.at_ (by omega)
        obtain ⟨s, x, hv⟩ : ∃ s x, l[k]? = some (s, x) := ⟨_, _, List.getElem?_eq_getElem hlt⟩
        obtain ⟨s', x', hv'⟩ : ∃ s' x', m[k]? = some (s', x') := ⟨_, _, List.getElem?_eq_getElem hlt'⟩
        obtain ⟨h0, h1⟩ := hc k s x hv
        obtain ⟨h2, h3⟩ := hc' k s' x' hv'
        have Hn := Lib.hid hn
        have Hv := Lib.hid hv
        have Hv' := Lib.hid hv'
        clear hn hv hv' hc hc' ha hb
        by_cases heq : (s == s' && x == x') = true
        · go_wp2
          go_quiet (fail)
          go_wp2
          go_roundw
          case rel =>
            refine ⟨k + 1, _, hlt, by go_num, fun j hj => ?_, rfl⟩
            rcases Nat.lt_or_ge j k with h | h
            · exact Hn.out j h
            · obtain rfl : j = k := by omega
              simp only [Bool.and_eq_true, beq_iff_eq] at heq
              rw [Hv.out, Hv'.out, heq.1, heq.2]
          case measure => simp [intOf]; omega
        · have hne : (s == s' && x == x') = false := by simpa using heq
          have Hd := Lib.hid (show decide (l = m) = false by
            refine decide_eq_false (fun e => heq ?_)
            subst e
            have := Hv.out.symm.trans Hv'.out
            simp only [Option.some.injEq, Prod.mk.injEq] at this
            simp [this])
          clear heq
          go_wp2
          go_quiet (fail)
          go_wp2
          go_ret
          exact ⟨by rw [Hd.out]; rfl, by repeat (first | exact Below.refl _ _ | refine below_drewN ?_ _)⟩
      · have Hd := Lib.hid (show decide (l = m) = true by
          refine decide_eq_true (List.ext_getElem? (fun j => ?_))
          have := Hlen.out
          rcases Nat.lt_or_ge j k with h | h
          · exact hn j h
          · rw [List.getElem?_eq_none (by omega), List.getElem?_eq_none (by omega)])
        clear hn
        go_wp2
        go_ret
        exact ⟨by rw [Hd.out]; rfl, by repeat (first | exact Below.refl _ _ | refine below_drewN ?_ _)⟩
  · have hlen' : ((l.length : Int) != (m.length : Int)) = true := by simp; omega
    have Hd := Lib.hid (show decide (l = m) = false from decide_eq_false (fun e => hlen (by rw [e])))
    go_enter Try.func19, Try.ntmps19
    go_wp2
    go_ret
    exact ⟨by rw [Hd.out]; rfl, Below.refl _ _⟩

end Go.Proofs.Ytaneokplagdcfaa
