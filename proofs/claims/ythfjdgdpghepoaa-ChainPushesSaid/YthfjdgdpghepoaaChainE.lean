/- Push and Pop of both texts in one form; the law's 'few' and 'shown'; how entries are opened; the law ChainAll's walk. -/
import Derived.Test.YthfjdgdpghepoaaChainD
import Derived.Test.YthfjdgdpghepoaaOpen
namespace Go.Proofs.Ythfjdgdpghepoaa
open Go.RowKit

def EntOk (e : Ent) : Prop := -9223372036854775808 ≤ e.1 ∧ e.1 ≤ 9223372036854775807

theorem ent_of_trod {H : Type} {enc : TypeId × Value → H} {w : World} {base : Nat} {spare : Nat → Bool} {held : Bool} (n : Nat) (cs : List Value) (y : DataW H × List MemPlace)
    (h : DataW.trod enc Try.prog w base spare held n 34 cs = some y) : ∃ a, cs = entCells a ∧ EntOk a := by
  obtain ⟨y0, y1, m, _, hl, h0, h1⟩ := Go.ChangeShapes.trod_struct2 Try.underlying34 h
  have hl2 : cs.length = 2 := hl.trans (by kernel_rfl)
  match cs, hl2 with
  | [c0, c1], _ =>
    have k0 : Try.prog.cellsOf 3 = 1 := by kernel_rfl
    have k1 : Try.prog.cellsOf 4 = 1 := by kernel_rfl
    rw [k0] at h0
    rw [k1] at h1
    obtain ⟨s, hs, _, hw⟩ := DataW.trod_int Try.underlying3 h0
    obtain ⟨x, hx, _⟩ := DataW.trod_bool Try.underlying4 h1
    simp at hs hx
    subst hs; subst hx
    exact ⟨(s, x), rfl, wf_int hw⟩

theorem open_ent {H : Type} {enc : TypeId × Value → H} {w : World} {base : Nat} {spare : Nat → Bool} {held : Bool} {r : Reach} {b0 : Nat} {v : Value} {d : DataW H} {p : List MemPlace}
    (hv : Value.okWide Try.prog w r b0 34 v) (h : DataW.Trod enc Try.prog w base spare held 34 v d p) : ∃ (s : Int) (x : Bool), v = .agg #[.int .i64 s, .bool x] ∧ EntOk (s, x) := by
  obtain ⟨cs, rfl, _⟩ := Go.WideShapes.okWide_struct Try.underlying34 hv
  obtain ⟨fuel, hf⟩ := h
  obtain ⟨⟨s, x⟩, hc, hq⟩ := ent_of_trod _ _ _ hf
  obtain ⟨l⟩ := cs
  simp only [Value.cells, entCells] at hc
  exact ⟨s, x, by rw [show l = _ from hc], hq⟩

theorem push_any (A : Option Addr) (c : Nat) (l : List Ent) (s : Int) (x : Bool) (w : World) (hl : l.length ≤ 1048576) (he : Ents w A l) :
    Calls Try.prog 12 #[.slice A l.length c, .agg #[.int .i64 s, .bool x]] w fun e w' => ∃ v, e = .returned (.tuple #[v, .int .i64 (push l (s, x)).2]) ∧ NewEnts w (push l (s, x)).1 v w' := by
  by_cases h : 6 ≤ l.length
  · rw [push, if_pos h]
    exact (push_deep A c l.length s x w h hl).mono fun e w' ⟨he, hb⟩ => ⟨_, he, newRow_nil' hb⟩
  · rw [push, if_neg h]
    exact push_some A c l s x w (by omega) he

theorem rpush_any (A : Option Addr) (c : Nat) (l : List Ent) (s : Int) (x : Bool) (w : World) (hl : l.length ≤ 1048576) (he : Ents w A l) :
    Calls Try.prog 18 #[.slice A l.length c, .agg #[.int .i64 s, .bool x]] w fun e w' => ∃ v, e = .returned (.tuple #[v, .int .i64 (push l (s, x)).2]) ∧ NewEnts w (push l (s, x)).1 v w' := by
  by_cases h : 6 ≤ l.length
  · rw [push, if_pos h]
    exact (rpush_deep A c l.length s x w h hl).mono fun e w' ⟨he, hb⟩ => ⟨_, he, newRow_nil' hb⟩
  · rw [push, if_neg h]
    exact rpush_some A c l s x w (by omega) he

theorem pop_any (A : Option Addr) (c : Nat) (l : List Ent) (w : World) (hl : l.length ≤ 1048576) (hc : l.length ≤ c) (he : Ents w A l) :
    Calls Try.prog 15 #[.slice A l.length c] w fun e w' => ∃ v, e = .returned (.tuple #[v, .agg #[.int .i64 (pop l).2.1.1, .bool (pop l).2.1.2], .int .i64 (pop l).2.2]) ∧ NewEnts w (pop l).1 v w' := by
  rcases List.eq_nil_or_concat l with rfl | ⟨l', ⟨s, x⟩, rfl⟩
  · exact (pop_none A c w).mono fun e w' ⟨he, hb⟩ => ⟨_, he, newRow_nil' hb⟩
  · rw [show (l'.concat (s, x)) = l' ++ [(s, x)] by simp] at *
    have hp : pop (l' ++ [(s, x)]) = (l', (s, x), 0) := by simp [pop]
    rw [hp, List.length_append, List.length_singleton]
    rw [List.length_append, List.length_singleton] at hl hc
    exact pop_some A c l' s x w (by omega) (by omega) he

theorem rpop_any (A : Option Addr) (c : Nat) (l : List Ent) (w : World) (hl : l.length ≤ 1048576) (hc : l.length ≤ c) (he : Ents w A l) :
    Calls Try.prog 19 #[.slice A l.length c] w fun e w' => ∃ v, e = .returned (.tuple #[v, .agg #[.int .i64 (pop l).2.1.1, .bool (pop l).2.1.2], .int .i64 (pop l).2.2]) ∧ NewEnts w (pop l).1 v w' := by
  rcases List.eq_nil_or_concat l with rfl | ⟨l', ⟨s, x⟩, rfl⟩
  · exact (rpop_none A c w).mono fun e w' ⟨he, hb⟩ => ⟨_, he, newRow_nil' hb⟩
  · rw [show (l'.concat (s, x)) = l' ++ [(s, x)] by simp] at *
    have hp : pop (l' ++ [(s, x)]) = (l', (s, x), 0) := by simp [pop]
    rw [hp, List.length_append, List.length_singleton]
    rw [List.length_append, List.length_singleton] at hl hc
    exact rpop_some A c l' s x w (by omega) (by omega) he

set_option maxHeartbeats 1000000 in
theorem shown_any (w : World) : Calls Try.prog 8 #[] w fun e w' => e = .returned (.bool true) ∧ Below w.heap.size w w' := by
  have he : Ents (w.alloc (.cells #[.int .i64 1, .bool true, .int .i64 2, .bool true, .int .i64 1, .bool false] 34)) (some ⟨w.heap.size, 0, none⟩) [(1, true), (2, true), (1, false)] :=
    Cells.of_row (row_new w _ _) (fun j v hv => by
      rw [Nat.zero_add, List.getElem?_toArray]
      exact hv)
  have hb0 : Below w.heap.size w (w.alloc (.cells #[.int .i64 1, .bool true, .int .i64 2, .bool true, .int .i64 1, .bool false] 34)) := by go_grown
  go_enter Try.func8, Try.ntmps8
  go_wp2_with fail
  refine (area_any _ _ [(1, true), (2, true), (1, false)] _ (by simp) he).mono ?_
  rintro e w1 ⟨rfl, rfl⟩
  rw [show area [(1, true), (2, true), (1, false)] = 1 from rfl]
  go_wp2_with fail
  refine (par_any _ _ [(1, true), (2, true), (1, false)] 2 _ (by simp) (by simp) he).mono ?_
  rintro e w1 ⟨rfl, hb1⟩
  rw [show par [(1, true), (2, true), (1, false)] 2 = 1 from rfl]
  go_wp2_with fail
  refine (above_any _ _ [(1, true), (2, true), (1, false)] 1 2 _ (by simp) (by simp) (he.below hb1)).mono ?_
  rintro e w2 ⟨rfl, hb2⟩
  rw [show above [(1, true), (2, true), (1, false)] 1 2 = true from rfl]
  go_wp2_with fail
  refine (above_any _ _ [(1, true), (2, true), (1, false)] 2 1 _ (by simp) (by simp) ((he.below hb1).below hb2)).mono ?_
  rintro e w3 ⟨rfl, hb3⟩
  rw [show above [(1, true), (2, true), (1, false)] 2 1 = false from rfl]
  go_wp2_with fail
  go_ret
  exact ⟨rfl, below_only (below_only (below_only hb0 hb1) hb2) hb3⟩

set_option maxHeartbeats 400000 in
theorem few_any (A : Option Addr) (c : Nat) (l : List Ent) (w : World) (hl : l.length ≤ c) (hc : c ≤ 9223372036854775807) :
    Calls Try.prog 17 #[.slice A l.length c] w fun e w' => e = .returned (.slice A (l.take 10).length c) ∧ w' = w := by
  by_cases h : l.length ≤ 10
  · have Hlen := Lib.hid (show (l.take 10).length = l.length by rw [List.length_take]; omega)
    go_enter Try.func17, Try.ntmps17
    go_wp2
    go_ret
    exact ⟨by rw [Hlen.out]; rfl, rfl⟩
  · have Hlen := Lib.hid (show (l.take 10).length = 10 by rw [List.length_take]; omega)
    have h1 : (10 : Int) ≤ (c : Int) := by omega
    go_enter Try.func17, Try.ntmps17
    go_wp2
    go_ret
    exact ⟨by rw [Hlen.out]; rfl, rfl⟩

@[go_sem high] theorem eqlErr (w : World) (a b : Int) : (binOp .eql 30 (.int .i64 a) (.int .i64 b)).run Try.prog w = .ok (.bool (a == b)) w := by
  simp [go_sem]

set_option maxHeartbeats 2000000 in
theorem chainAll_walk (A : Option Addr) (c : Nat) (l : List Ent) (s t : Int) (s' : Int) (x : Bool) (w : World) (hl : l.length ≤ c) (hc : c ≤ maxLen) (he : Cells w A (l.flatMap entCells)) (_hq : ∀ e ∈ l, EntOk e)
    (_ : (Lit.int .i64 s).wf = true) (_ : (Lit.int .i64 t).wf = true) (_ : EntOk (s', x)) :
    Calls Try.prog 6 #[.slice A l.length c, .agg #[.int .i64 s, .int .i64 t], .agg #[.int .i64 s', .bool x]] w fun e w' => e = .returned (.bool true) ∧ Below w.heap.size w w' := by
  unfold maxLen at hc
  have hl1 : (l.take 10).length ≤ 10 := by rw [List.length_take]; omega
  have hl2 : (l.take 10).length ≤ c := by rw [List.length_take]; omega
  have he1 := Ents.take (l := l) he 10
  have R1 : ((w.alloc (.cells #[.int .i64 s, .int .i64 t] 29)).alloc (.cells #[.int .i64 s', .bool x] 34)).heap[w.heap.size]? = some (.cells #[.int .i64 s, .int .i64 t] 29) := row_alloc (row_new w _ _)
  have R2 : ((w.alloc (.cells #[.int .i64 s, .int .i64 t] 29)).alloc (.cells #[.int .i64 s', .bool x] 34)).heap[w.heap.size + 1]? = some (.cells #[.int .i64 s', .bool x] 34) := heap_at (by simp)
  have B0 : Below w.heap.size w ((w.alloc (.cells #[.int .i64 s, .int .i64 t] 29)).alloc (.cells #[.int .i64 s', .bool x] 34)) := by go_grown
  have HR1 := Lib.hid R1; have HR2 := Lib.hid R2; clear R1 R2
  go_enter Try.func6, Try.ntmps6
  go_wp2_with fail
  refine (shown_any _).mono ?_
  rintro e w1 ⟨rfl, hb1⟩
  have B1 := below_only B0 hb1
  have R1 := row_below HR1.out hb1; have R2 := row_below HR2.out hb1; clear HR1 HR2 hb1 B0
  go_wp2_with fail
  refine (few_any A c l _ hl hc).mono ?_
  rintro e w2 ⟨rfl, rfl⟩
  generalize l.take 10 = m at hl1 hl2 he1 ⊢
  replace he1 := he1.below B1
  obtain ⟨b10, b11, _, _⟩ := box2 R1; obtain ⟨b20, b21, _, _⟩ := box2 R2
  have HR1 := Lib.hid R1; have HR2 := Lib.hid R2; clear R1 R2
  go_wp2_with fail
  refine (push_any A c m s' x _ (by omega) he1).mono ?_
  rintro e w3 ⟨v1, rfl, A1, c1, rfl, hc1, hcs1, _, hb⟩
  have B3 := below_only B1 hb; replace he1 := he1.below hb; have R1 := row_below HR1.out hb; have R2 := row_below HR2.out hb; clear HR1 HR2 hb b10 b11 b20 b21 B1
  obtain ⟨b10, b11, _, _⟩ := box2 R1; obtain ⟨b20, b21, _, _⟩ := box2 R2
  have HR1 := Lib.hid R1; have HR2 := Lib.hid R2; clear R1 R2
  go_wp2_with fail
  refine (rpush_any A c m s' x _ (by omega) he1).mono ?_
  rintro e w4 ⟨v2, rfl, A2, c2, rfl, hc2, hcs2, _, hb⟩
  have B4 := below_only B3 hb; replace he1 := he1.below hb; replace hcs1 := hcs1.below hb; have R1 := row_below HR1.out hb; have R2 := row_below HR2.out hb; clear HR1 HR2 hb b10 b11 b20 b21 B3
  obtain ⟨b10, b11, _, _⟩ := box2 R1
  have HR1 := Lib.hid R1; clear R1 R2
  have hpl : (push m (s', x)).1.length ≤ 11 := by unfold push; split <;> simp; omega
  go_wp2_with fail
  refine (same_any A1 A2 c1 c2 _ _ _ (by omega) (by omega) hcs1 hcs2).mono ?_
  rintro e w5 ⟨rfl, hb⟩
  have B5 := below_only B4 hb; replace he1 := he1.below hb; have R1 := row_below HR1.out hb; clear HR1 hb b10 b11 B4 hcs1 hcs2
  obtain ⟨b10, b11, _, _⟩ := box2 R1
  have HR1 := Lib.hid R1; clear R1
  rw [decide_eq_true rfl]
  go_wp2_with fail
  refine (pop_any A c m _ (by omega) hl2 he1).mono ?_
  rintro e w6 ⟨v3, rfl, A3, c3, rfl, hc3, hcs3, _, hb⟩
  have B6 := below_only B5 hb; replace he1 := he1.below hb; have R1 := row_below HR1.out hb; clear HR1 hb b10 b11 B5
  obtain ⟨b10, b11, _, _⟩ := box2 R1
  have HR1 := Lib.hid R1; clear R1
  go_wp2_with fail
  have R1 := row_alloc (o' := .cells #[.int .i64 (pop m).2.1.1, .bool (pop m).2.1.2] 34) HR1.out; have R3 := row_new w6 #[.int .i64 (pop m).2.1.1, .bool (pop m).2.1.2] 34; have hcs3' := Cells.alloc hcs3 (.cells #[.int .i64 (pop m).2.1.1, .bool (pop m).2.1.2] 34)
  have B6' := B6.alloc B6.size (.cells #[.int .i64 (pop m).2.1.1, .bool (pop m).2.1.2] 34)
  refine (rpop_any A c m _ (by omega) hl2 (Cells.alloc he1 _)).mono ?_
  rintro e w7 ⟨v4, rfl, A4, c4, rfl, hc4, hcs4, _, hb⟩
  have B7 := below_only B6' hb; replace he1 := (Cells.alloc he1 _).below hb; replace R1 := row_below R1 hb; replace R3 := row_below R3 hb; replace hcs3' := hcs3'.below hb; have g6 := lt_of_heap R3; clear HR1 hb b10 b11 B6 hcs3 B6'
  obtain ⟨b10, b11, _, _⟩ := box2 R1; obtain ⟨b30, b31, _, _⟩ := box2 R3
  have HR1 := Lib.hid R1; have HR3 := Lib.hid R3; clear R1 R3
  go_wp2_with fail
  have R1 := row_alloc (o' := .cells #[.int .i64 (pop m).2.1.1, .bool (pop m).2.1.2] 34) HR1.out; have R3 := row_alloc (o' := .cells #[.int .i64 (pop m).2.1.1, .bool (pop m).2.1.2] 34) HR3.out; have R4 := row_new w7 #[.int .i64 (pop m).2.1.1, .bool (pop m).2.1.2] 34
  have B7' := B7.alloc B7.size (.cells #[.int .i64 (pop m).2.1.1, .bool (pop m).2.1.2] 34)
  have hpo : (pop m).1.length ≤ 10 := by unfold pop; split <;> simp; omega
  refine (same_any A3 A4 c3 c4 _ _ _ (by omega) (by omega) (Cells.alloc hcs3' _) (Cells.alloc hcs4 _)).mono ?_
  rintro e w8 ⟨rfl, hb⟩
  have B8 := below_only B7' hb; replace he1 := (Cells.alloc he1 _).below hb; replace R1 := row_below R1 hb; replace R3 := row_below R3 hb; replace R4 := row_below R4 hb; clear HR1 HR3 hb b10 b11 b30 b31 B7 hcs3' hcs4 B7' g6
  obtain ⟨b10, b11, _, _⟩ := box2 R1; obtain ⟨b30, b31, _, _⟩ := box2 R3; obtain ⟨b40, b41, _, _⟩ := box2 R4
  clear R1 R3 R4
  rw [decide_eq_true rfl]
  go_wp2_with fail
  refine (area_any A c m _ (by omega) he1).mono ?_
  rintro e w9 ⟨rfl, rfl⟩
  go_wp2_with fail
  refine (rarea_any A c m _ (by omega) he1).mono ?_
  rintro e w9 ⟨rfl, rfl⟩
  go_wp2_with fail
  refine (reach_any A c m s _ (by omega) he1).mono ?_
  rintro e w9 ⟨rfl, hb⟩
  have B9 := below_only B8 hb; replace he1 := he1.below hb; clear hb B8
  go_wp2_with fail
  refine (rreach_any A c m s _ (by omega) he1).mono ?_
  rintro e w10 ⟨rfl, rfl⟩
  go_wp2_with fail
  refine (par_any A c m s _ (by omega) hl2 he1).mono ?_
  rintro e w10 ⟨rfl, hb⟩
  have B10 := below_only B9 hb; replace he1 := he1.below hb; clear hb B9
  go_wp2_with fail
  refine (rpar_any A c m s _ (by omega) hl2 he1).mono ?_
  rintro e w11 ⟨rfl, rfl⟩
  go_wp2_with fail
  refine (above_any A c m s t _ (by omega) hl2 he1).mono ?_
  rintro e w11 ⟨rfl, hb⟩
  have B11 := below_only B10 hb; replace he1 := he1.below hb; clear hb B10
  go_wp2_with fail
  refine (rabove_any A c m s t _ (by omega) hl2 he1).mono ?_
  rintro e w12 ⟨rfl, rfl⟩
  go_wp2_with fail
  go_ret
  exact ⟨rfl, B11⟩

end Go.Proofs.Ythfjdgdpghepoaa
