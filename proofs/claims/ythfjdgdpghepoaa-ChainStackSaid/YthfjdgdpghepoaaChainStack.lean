/- The walk of ChainStack. -/
import Derived.Test.YthfjdgdpghepoaaOrderPlain
import Derived.Test.YthfjdgdpghepoaaChainF
import Derived.IntWalk
import Derived.Test.YthfjdgdpghepoaaHeap
import Derived.BigQuiet
import Derived.Deep.RegionHeld3
namespace Go.Proofs.Ythfjdgdpghepoaa
open Go.RowKit

theorem take_next {l : List Ent} {n : Nat} {e : Ent} (h : l[n]? = some e) : l.take (n + 1) = l.take n ++ [e] := by
  obtain ⟨hn, rfl⟩ := List.getElem?_eq_some_iff.1 h
  exact List.take_succ_eq_append_getElem hn
theorem take_len {l : List Ent} {n : Nat} (h : n ≤ l.length) : (l.take n).length = n := by rw [List.length_take]; omega
theorem push_at {A : Option Addr} {c n : Nat} {l : List Ent} {s : Int} {x : Bool} (w : World) (hl : l[n]? = some (s, x)) (hn : n < 6) (he : Ents w A (l.take n)) :
    Calls Try.prog 12 #[.slice A n c, .agg #[.int .i64 s, .bool x]] w fun e w' => ∃ v, e = .returned (.tuple #[v, .int .i64 0]) ∧ NewRow w (n + 1) ((l.take (n + 1)).flatMap entCells) v w' := by
  have hnl := (List.getElem?_eq_some_iff.1 hl).1
  have h := push_any A c (l.take n) s x w (by rw [take_len (by omega)]; omega) he
  have hp : push (l.take n) (s, x) = (l.take (n + 1), 0) := by rw [push, if_neg (by rw [take_len (by omega)]; omega), take_next hl]
  rw [hp, take_len (by omega)] at h
  unfold NewEnts at h
  rw [take_len (l := l) (n := n + 1) (by omega)] at h
  exact h
theorem push_full {A : Option Addr} {c n : Nat} {l : List Ent} {s : Int} {x : Bool} (w : World) (hn : n = 6) (hl : 6 ≤ l.length) (he : Ents w A (l.take n)) :
    Calls Try.prog 12 #[.slice A n c, .agg #[.int .i64 s, .bool x]] w fun e w' => ∃ v, e = .returned (.tuple #[v, .int .i64 24]) ∧ NewRow w 0 [] v w' := by
  subst hn
  have h := push_any A c (l.take 6) s x w (by rw [take_len (by omega)]; omega) he
  have hp : push (l.take 6) (s, x) = ([], 24) := by rw [push, if_pos (by rw [take_len (by omega)]; omega)]
  rw [hp, take_len (by omega)] at h
  exact h
theorem pop_at {A : Option Addr} {c n : Nat} {l : List Ent} {s : Int} {x : Bool} (w : World) (hl : l[n]? = some (s, x)) (hn : n ≤ 10) (hc : n + 1 ≤ c) (he : Ents w A (l.take (n + 1))) :
    Calls Try.prog 15 #[.slice A (n + 1) c] w fun e w' => ∃ v, e = .returned (.tuple #[v, .agg #[.int .i64 s, .bool x], .int .i64 0]) ∧ NewRow w n ((l.take n).flatMap entCells) v w' := by
  have hnl := (List.getElem?_eq_some_iff.1 hl).1
  have h := pop_any A c (l.take (n + 1)) w (by rw [take_len (by omega)]; omega) (by rw [take_len (by omega)]; exact hc) he
  have hp : pop (l.take (n + 1)) = (l.take n, (s, x), 0) := by rw [take_next hl]; simp [pop]
  rw [hp, take_len (by omega)] at h
  unfold NewEnts at h
  rw [take_len (l := l) (n := n) (by omega)] at h
  exact h
theorem pop_zero {A : Option Addr} {c : Nat} {l : List Ent} (w : World) (he : Ents w A (l.take 0)) :
    Calls Try.prog 15 #[.slice A 0 c] w fun e w' => ∃ v, e = .returned (.tuple #[v, .agg #[.int .i64 0, .bool false], .int .i64 23]) ∧ NewRow w 0 [] v w' := by
  have h := pop_any A c [] w (by simp) (by simp) he
  exact h
theorem area_at {A : Option Addr} {c n : Nat} {l : List Ent} {s : Int} {x : Bool} (w : World) (hl : l[n]? = some (s, x)) (hn : n ≤ 10) (he : Ents w A (l.take (n + 1))) :
    Calls Try.prog 13 #[.slice A (n + 1) c] w fun e w' => e = .returned (.int .i64 s) ∧ w' = w := by
  have hnl := (List.getElem?_eq_some_iff.1 hl).1
  have h := area_any A c (l.take (n + 1)) w (by rw [take_len (by omega)]; omega) he
  rw [show area (l.take (n + 1)) = s by rw [take_next hl, area_app], take_len (by omega)] at h
  exact h
theorem same_at {A B : Option Addr} {c d n : Nat} {l : List Ent} (w : World) (hn : n ≤ 10) (hl : n ≤ l.length) (ha : Ents w A (l.take n)) (hb : Ents w B (l.take n)) :
    Calls Try.prog 16 #[.slice A n c, .slice B n d] w fun e w' => e = .returned (.bool true) ∧ Below w.heap.size w w' := by
  have h := same_any A B c d (l.take n) (l.take n) w (by rw [take_len hl]; omega) (by rw [take_len hl]; omega) ha hb
  rw [take_len hl] at h
  exact h.mono fun e w' ⟨he, hb⟩ => ⟨by rw [he]; simp, hb⟩

theorem old_cell {w w' : World} (h : Below w.heap.size w w') {p : Addr} {v : Value} (hv : w.cell? p = some v) : w'.cell? p = some v :=
  (h.cell (World.block_lt_of_cell? w p hv)).trans hv

/-- the rows: each holds what was put so far -/
def RowsV (w : World) (l : List Ent) (R : List Value) (rb : Option Nat) : Prop :=
  ∀ k, k < R.length → ∃ A c, R[k]? = some (.slice A k c) ∧ k ≤ c ∧ Ents w A (l.take k) ∧ ∀ a, A = some a → a.block < w.heap.size ∧ rb ≠ some a.block
theorem RowsV.keep {w w' : World} {l : List Ent} {R : List Value} {rb : Option Nat} {S : List Nat} (h : RowsV w l R rb) (k : Keep S w w') (hs : ∀ i ∈ S, rb = some i ∨ w.heap.size ≤ i) : RowsV w' l R rb := by
  intro j hj
  obtain ⟨A, c, h1, h2, h3, h4⟩ := h j hj
  refine ⟨A, c, h1, h2, Cells.kept h3 k (fun a ha hm => ?_), fun a ha => ⟨Nat.lt_of_lt_of_le (h4 a ha).1 k.size, (h4 a ha).2⟩⟩
  have := h4 a ha
  rcases hs _ hm with e | e
  · exact this.2 e
  · omega
theorem RowsV.grow {w w' : World} {l : List Ent} {R : List Value} {rb rb' : Option Nat} {S : List Nat} (h : RowsV w l R rb) (k : Keep S w w') (hs : ∀ i ∈ S, rb = some i ∨ w.heap.size ≤ i) (hr : rb' = rb ∨ ∃ m, w.heap.size ≤ m ∧ rb' = some m) : RowsV w' l R rb' := by
  intro j hj
  obtain ⟨A, c, h1, h2, h3, h4⟩ := h.keep k hs j hj
  obtain ⟨A', c', g1, g2, g3, g4⟩ := h j hj
  rw [h1] at g1
  injection g1 with g1
  injection g1 with g1 _ _
  subst g1
  refine ⟨A, c, h1, h2, h3, fun a ha => ⟨(h4 a ha).1, ?_⟩⟩
  rcases hr with rfl | ⟨m, hm, rfl⟩
  · exact (h4 a ha).2
  · intro e
    injection e with e
    have := (g4 a ha).1
    omega
theorem RowsV.push {w : World} {l : List Ent} {R : List Value} {rb : Option Nat} {A : Option Addr} {c : Nat} (h : RowsV w l R rb) (hc : R.length ≤ c) (he : Ents w A (l.take R.length)) (ha : ∀ a, A = some a → a.block < w.heap.size ∧ rb ≠ some a.block) : RowsV w l (R ++ [.slice A R.length c]) rb := by
  intro j hj
  rw [List.length_append, List.length_singleton] at hj
  by_cases hjl : j < R.length
  · obtain ⟨A', c', h1, h2⟩ := h j hjl
    exact ⟨A', c', by rw [List.getElem?_append_left hjl]; exact h1, h2⟩
  · obtain rfl : j = R.length := by omega
    exact ⟨A, c, by simp, hc, he, ha⟩
theorem lt_of_row {w : World} {B e size n b o N c : Nat} {xs : List Value} (h : w.ownsRow B e size (.slice (some ⟨b, o, none⟩) N c) n xs) : b < w.heap.size := by
  rcases h.2 with ⟨h, _⟩ | ⟨g, cap, cur, h, _, hg, _⟩
  · cases h
  · injection h with h
    injection h with h
    injection h with h
    subst h
    exact lt_of_heap hg
theorem own_ge0 {w : World} {B n : Nat} {e : TypeId} {size m : Nat} {v : Value} {xs : List Value} (h : w.ownsRow B e size v m xs) (hn : n ≤ B) : ∀ i, v.ownBlock = some i → n ≤ i := fun i hi => Nat.le_trans hn (own_ge h i hi)
theorem infoEnts : (Try.prog.info? 22).map (fun i => (i.zero, i.size, i.bytes)) = some (some (.slice none 0 0), 1, 24) := by kernel_rfl
theorem slice_one (A : Option Addr) (n c : Nat) : ∀ u ∈ [Value.slice A n c], u.oneCell' = true := by
  intro u hu
  rw [List.mem_singleton.1 hu]
  rfl
theorem ents_lt {w : World} {A : Option Addr} {l : List Ent} (h : Ents w A l) (h0 : 0 < l.length) (a : Addr) (ha : A = some a) : a.block < w.heap.size := by
  obtain ⟨b, off, e, hb, _⟩ := Ents.at_ h h0
  rw [ha] at e
  injection e with e
  rw [e]
  exact hb

set_option maxRecDepth 100000 in
set_option maxHeartbeats 8000000 in
theorem chainStack_walk (A : Option Addr) (c : Nat) (l : List Ent) (w : World) (_hl : l.length ≤ c) (_hc : c ≤ maxLen) (he : Cells w A (l.flatMap entCells)) (_ : ∀ e ∈ l, EntOk e) :
    Calls Try.prog 5 #[.slice A l.length c] w fun e w' => e = .returned (.bool true) ∧ Below w.heap.size w w' := by
  have He := Lib.hid (show Ents w A l from he)
  unfold maxLen at _hc
  clear he
  obtain ⟨i0, hi0, hz0, hz1, hz2⟩ := info_parts infoEnts
  go_enter Try.func5, Try.ntmps5
  go_wp2_with fail
  refine (shown_any _).mono ?_
  rintro r w1 ⟨rfl, hb1⟩
  have HB1 := Lib.hid hb1
  have z1 := hb1.size
  clear hb1
  go_wp2_with fail
  go_loopw [4, 5] (fun rv tt wr => ∃ (k n N : Nat) (R : List Value) (Ar : Option Addr) (cr : Nat), N = n + 1 ∧ k ≤ l.length ∧ k ≤ 10 ∧ n ≤ 6 ∧ (k ≤ 6 → n = k) ∧ (6 ≤ k → n = 6) ∧ tt = .int .i64 k ∧ rv = .slice Ar N cr ∧ R.length = N ∧
      wr.ownsRow w1.heap.size 22 1 (.slice Ar N cr) N R ∧ RowsV wr l R (Value.slice Ar N cr).ownBlock ∧ Below w.heap.size w wr ∧ w1.heap.size ≤ wr.heap.size)
    (fun _ tt _ => l.length - (intOf tt).toNat)
  case atStart =>
    refine ⟨0, 0, 1, [.slice none 0 0], some ⟨w1.heap.size, 0, none⟩, 1, rfl, Nat.zero_le _, by omega, by omega, fun _ => rfl, fun h => by omega, rfl, rfl, rfl, own_all (row_new _ _ _) (Nat.le_refl _) rfl (by simp only [maxLen]; omega), ?_, below_only HB1.out (by go_grown), by simp⟩
    intro k hk
    obtain rfl : k = 0 := by simp at hk; exact hk
    exact ⟨none, 0, rfl, Nat.le_refl _, Cells.nil, fun a ha => by cases ha⟩
  case round =>
    obtain ⟨k, n, N, R, Ar, cr, hN, hkl, hk10, hn6, hka, hkb, rfl, rfl, hRl, hown, hrows, hB, hBh⟩ := hrel
    have eN : (N : Int) - 1 = (n : Int) := by omega
    have hnN : n < N := by omega
    have hN7 : N ≤ 7 := by omega
    have HN := Lib.hid hN
    have HRl := Lib.hid hRl
    have Hown := Lib.hid hown
    have Hrows := Lib.hid hrows
    have HB := Lib.hid hB
    have Hka := Lib.hid hka
    have Hkb := Lib.hid hkb
    have zr := hB.size
    obtain ⟨An, cn, hRn, hncn, hAn, hbn⟩ := hrows n (by omega)
    have HAn := Lib.hid hAn
    have HRn := Lib.hid hRn
    have Hbn := Lib.hid hbn
    obtain ⟨rb, ro, rfl, hrb, hrc⟩ := Cells.at_ (Cells.of_own hown) (by omega)
    have r0 := hrc n _ hRn
    have eW : IntKind.i64.wrap ((N : Int) - 1) = (n : Int) := by rw [eN]; rw [IntKind.wrap_i64]; omega
    have eWn : IntKind.i64.wrap (n : Int) = (n : Int) := by rw [IntKind.wrap_i64]; omega
    have n0 : (0 : Int) ≤ (n : Int) := by omega
    have nN : (n : Int) < (N : Int) := by omega
    have k0 : (0 : Int) ≤ (k : Int) := by omega
    clear hN hRl hown hrows hB hka hkb hRn hAn hbn
    by_cases hgo : k < l.length ∧ k < 10
    · obtain ⟨hlt, hlt10⟩ := hgo
      obtain ⟨bA, off, rfl, hbl, hcl⟩ := Ents.at_ (He.out.below HB.out) (by omega)
      obtain ⟨x, hx⟩ : ∃ x, l[k]? = some x := ⟨_, List.getElem?_eq_getElem hlt⟩
      obtain ⟨xs, xb⟩ := x
      obtain ⟨x0, x1⟩ := hcl k xs xb hx
      have kl : (k : Int) < (l.length : Int) := by omega
      have Hx := Lib.hid hx
      clear hcl hx hrc
      by_cases h6 : k < 6
      · obtain rfl : n = k := Hka.out (by omega)
        go_wp2_with fail
        go_region_held3 (Old wr) ((go_split_ands; refine old_of ?_; first | (go_grown; done) | assumption | (refine below_only ?_ (by assumption); go_grown; done))) (first | (go_at_call 12; refine (push_at _ Hx.out h6 (Cells.drew HAn.out)).mono ?_; rintro r w3 ⟨v3, rfl, A3, c3, rfl, hc3, hcs3, hfr3, hb3⟩; have o3 := below_only (Below.refl wr.heap.size wr).drew hb3))
        have O3 := Lib.hid o3
        have Hc3 := Lib.hid (show Ents w3 A3 (l.take (n + 1)) from hcs3)
        have Hf3 := Lib.hid (show ∀ a, A3 = some a → wr.heap.size ≤ a.block from hfr3)
        have z3 := o3.size
        have x0' := old_cell o3 x0
        have Hown3 := Lib.hid (own_below Hown.out o3)
        have Hrows3 := Lib.hid (Hrows.out.keep (keep_below o3 []) (by simp))
        have HB3 := Lib.hid (below_only HB.out o3)
        clear o3 hcs3 hfr3 hb3
        have ew1 : IntKind.i64.wrap ((n : Int) + 1) = (n : Int) + 1 := by rw [IntKind.wrap_i64]; omega
        go_wp2_with fail
        go_quiet (first | (go_at_call 13; exact Calls.quiet_of_same (area_at _ Hx.out (by omega) (by exact Hc3.out))))
        have HD := Lib.hid (show Below w3.heap.size w3 ((w3.drewN nq).alloc (.cells #[.slice A3 (n + 1) c3] 22)) from (below_drewN (Below.refl _ _) nq).alloc (Nat.le_refl _) _)
        have HO := Lib.hid (own_below Hown3.out HD.out)
        have HNw := Lib.hid (show Cells ((w3.drewN nq).alloc (.cells #[.slice A3 (n + 1) c3] 22)) (some ⟨w3.heap.size, 0, none⟩) [.slice A3 (n + 1) c3] from cells_one ((row_cell (row_new (w3.drewN nq) #[.slice A3 (n + 1) c3] 22) 0).trans rfl))
        have HBs := Lib.hid (show w1.heap.size ≤ ((w3.drewN nq).alloc (.cells #[.slice A3 (n + 1) c3] 22)).heap.size from Nat.le_trans (Nat.le_trans hBh z3) HD.out.size)
        go_wp2_with (at_builtin; refine wpList_append_any _ rfl (.tmp 71) (.tmp 73) _ (by rfl) w1.heap.size 22 i0 _ 1 24 Try.underlying38 hi0 hz0 hz1 hz2 rfl (by omega) (.slice (some ⟨rb, ro, none⟩) N cr) N R (by rfl) HO.out (some ⟨w3.heap.size, 0, none⟩) 1 1 [.slice A3 (n + 1) c3] (by rfl) rfl HNw.out (slice_one A3 (n + 1) c3) (by simp only [maxLen]; omega) (by omega) HBs.out ?_; intro v6 w6 hown6 hg6 hat6)
        have K6 := Lib.hid (show Keep (Value.slice (some ⟨rb, ro, none⟩) N cr).ownBlock.toList w3 w6 from Keep.grown (show Keep (Value.slice (some ⟨rb, ro, none⟩) N cr).ownBlock.toList w3 _ by repeat (first | exact Keep.refl _ _ | refine Keep.alloc ?_ _ | refine Keep.drewN ?_ _ | refine Keep.drew ?_)) hg6 (fun i hi => .inl (by simp [hi])))
        go_roundw
        case rel =>
          obtain ⟨A6, c6, rfl, hc6, -, -⟩ := own_slice hown6
          have hm := HN.out
          have hr := HRl.out
          subst hm
          have h3s : (Value.slice A6 (n + 1 + 1) c6).ownBlock = (Value.slice (some ⟨rb, ro, none⟩) (n + 1) cr).ownBlock ∨ ∃ m, w3.heap.size ≤ m ∧ (Value.slice A6 (n + 1 + 1) c6).ownBlock = some m := by
            rcases hat6 with h | h
            · exact .inl h
            · exact .inr ⟨_, by simp, h⟩
          have hrows6 : RowsV w6 l (R ++ [.slice A3 (n + 1) c3]) (Value.slice A6 (n + 1 + 1) c6).ownBlock := by
            have h2 := RowsV.push (A := A3) (c := c3) Hrows3.out (by rw [hr]; exact hc3) (by rw [hr]; exact Hc3.out) (fun a ha => by
              have h1 := Hf3.out a ha
              have h2 := ents_lt Hc3.out (by rw [take_len (by omega)]; omega) a ha
              have h3 := lt_of_row Hown.out
              refine ⟨h2, ?_⟩
              simp [Value.ownBlock]
              omega)
            rw [hr] at h2
            exact h2.grow K6.out (fun i hi => .inl (by simpa using hi)) h3s
          refine ⟨n + 1, n + 1, n + 1 + 1, R ++ [.slice A3 (n + 1) c3], A6, c6, rfl, by omega, by omega, by omega, fun _ => rfl, fun h => by omega, by go_num, rfl, by simp [hr], hown6, ?_, Keep.under HB3.out K6.out HB3.out.size (fun i hi => own_ge0 Hown.out z1 i (by simpa using hi)), Nat.le_trans (Nat.le_trans hBh z3) K6.out.size⟩
          exact hrows6
        case measure => simp [intOf]; omega
      · have Hn6 := Lib.hid (Hkb.out (by omega))
        go_wp2_with fail
        go_region_held3 (Old wr) ((go_split_ands; refine old_of ?_; first | (go_grown; done) | assumption | (refine below_only ?_ (by assumption); go_grown; done))) (first | (go_at_call 12; refine (push_full _ Hn6.out (by omega) (Cells.drew HAn.out)).mono ?_; rintro r w3 ⟨v3, rfl, A3, c3, rfl, hc3, hcs3, hfr3, hb3⟩; have o3 := below_only (Below.refl wr.heap.size wr).drew hb3))
        have HB3 := Lib.hid (below_only HB.out o3)
        have Hown3 := Lib.hid (own_below Hown.out o3)
        have Hrows3 := Lib.hid (Hrows.out.keep (keep_below o3 []) (by simp))
        have z3 := o3.size
        clear o3 hcs3 hfr3 hb3 x0 x1 r0
        go_wp2_with fail
        go_roundw
        case rel => exact ⟨k + 1, n, N, R, some ⟨rb, ro, none⟩, cr, HN.out, by omega, by omega, by omega, fun h => by omega, fun _ => Hn6.out, by go_num, rfl, HRl.out, Hown3.out, Hrows3.out, HB3.out, by omega⟩
        case measure => simp [intOf]; omega
    · have hex : ¬ k < l.length ∨ (k < l.length ∧ ¬ k < 10) := by omega
      have hnk : n ≤ k := by
        by_cases h : k ≤ 6
        · rw [Hka.out h]; omega
        · rw [Hkb.out (by omega)]; omega
      have Hrc := Lib.hid hrc
      clear hgo hrc
      rcases hex with h1 | ⟨h1, h2⟩
      all_goals
        go_wp2_with fail
        go_loopw [8, 9] (fun nv tt wz => ∃ (j : Nat) (A : Option Addr) (c : Nat), j ≤ n ∧ tt = .int .i64 j ∧ nv = .slice A j c ∧ j ≤ c ∧ Ents wz A (l.take j) ∧ Below wr.heap.size wr wz) (fun _ tt _ => (intOf tt).toNat)
        case atStart => exact ⟨n, An, cn, Nat.le_refl _, rfl, rfl, hncn, HAn.out, Below.refl _ _⟩
        case round =>
          obtain ⟨j, Aj, cj, hjn, rfl, rfl, hjc, hAj, hBz⟩ := hrel
          have HAj := Lib.hid hAj
          have HBz := Lib.hid hBz
          clear hAj hBz
          by_cases hj0 : 0 < j
          · obtain ⟨i, Hi⟩ : ∃ i, Hid (j = i + 1) := ⟨j - 1, Lib.hid (by omega)⟩
            have ej : (j : Int) - 1 = (i : Int) := by have := Hi.out; omega
            have i0' : (0 : Int) ≤ (i : Int) := by omega
            have hij : (i : Int) < (j : Int) := by have := Hi.out; omega
            have hiN : (i : Int) < (N : Int) := by have := Hi.out; omega
            have hil : (i : Int) < (l.length : Int) := by have := Hi.out; omega
            have j0' : (0 : Int) < (j : Int) := by omega
            obtain ⟨bA, off, rfl, hbl, hcl⟩ := Ents.at_ (He.out.below HB.out) (by omega)
            obtain ⟨x, hx⟩ : ∃ x, l[i]? = some x := ⟨_, List.getElem?_eq_getElem (by omega)⟩
            obtain ⟨xs, xb⟩ := x
            obtain ⟨x0, x1⟩ := hcl i xs xb hx
            have Hx := Lib.hid hx
            obtain ⟨Ai, ci, hRi, hic, hAi, hbi⟩ := Hrows.out i (by rw [HRl.out]; omega)
            have HAi := Lib.hid hAi
            have r0 := Hrc.out i _ hRi
            have HX0 := Lib.hid x0
            have HX1 := Lib.hid x1
            have HR0 := Lib.hid r0
            have Hjc := Lib.hid (show i + 1 ≤ cj by have := Hi.out; omega)
            have HAj' := Lib.hid (show Ents _ Aj (l.take (i + 1)) by rw [← Hi.out]; exact HAj.out)
            have Hpop := Lib.hid (pop_at _ Hx.out (by have := Hi.out; omega) Hjc.out HAj'.out)
            rw [← Hi.out] at Hpop
            clear hcl hx hRi hAi hbi x0 x1 r0
            go_wp2_with fail
            refine Hpop.out.mono ?_
            rintro r w4 ⟨v4, rfl, A4, c4, rfl, hc4, hcs4, -, hb4⟩
            have hx5 : Below w4.heap.size w4 (w4.alloc (.cells #[.int .i64 xs, .bool xb] 34)) := by go_grown
            have HBz5 := Lib.hid (below_only (below_only HBz.out hb4) hx5)
            have Hc4 := Lib.hid (show Ents (w4.alloc (.cells #[.int .i64 xs, .bool xb] 34)) A4 (l.take i) from Cells.alloc hcs4 _)
            have HXr := Lib.hid (row_new w4 #[.int .i64 xs, .bool xb] 34)
            have r0 := old_cell HBz5.out HR0.out
            have HAi5 := Lib.hid (show Ents (w4.alloc (.cells #[.int .i64 xs, .bool xb] 34)) Ai (l.take i) from Cells.below HAi.out HBz5.out)
            have z4 := hb4.size
            clear hb4 hcs4 hx5
            go_wp2_with fail
            refine (same_at _ (by omega) (by omega) Hc4.out HAi5.out).mono ?_
            rintro r w6 ⟨rfl, hb6⟩
            have HBz6 := Lib.hid (below_only HBz5.out hb6)
            have Hc6 := Lib.hid (Cells.below Hc4.out hb6)
            have x0 := old_cell HBz6.out HX0.out
            have x1 := old_cell HBz6.out HX1.out
            obtain ⟨y0, y1, _, _⟩ := box2 (row_below HXr.out hb6)
            clear hb6 r0
            go_wp2_with fail
            go_quiet (fail)
            go_wp2_with fail
            go_roundw
            case rel => exact ⟨i, A4, c4, by omega, by go_num, rfl, hc4, by first | exact Hc6.out | exact Cells.drew Hc6.out, by repeat (first | exact HBz6.out | refine below_drewN ?_ _ | refine Below.drew ?_)⟩
            case measure => simp [intOf]; omega
          · obtain rfl : j = 0 := by omega
            go_wp2_with fail
            refine (pop_zero _ HAj.out).mono ?_
            rintro r w4 ⟨v4, rfl, A4, c4, rfl, hc4, hcs4, -, hb4⟩
            have HBz4 := Lib.hid (below_only HB.out (HBz.out.trans (hb4.mono HBz.out.size)))
            have hA := Lib.hid (fun W (h : Below w4.heap.size w4 W) => area_any Aj cj [] W (by simp) (Cells.nil))
            clear hb4 hcs4
            go_wp2_with fail
            refine (area_any Aj cj [] _ (by simp) Cells.nil).mono ?_
            rintro r w5 ⟨rfl, rfl⟩
            rw [show area [] = 0 from rfl]
            go_wp2_with fail
            go_ret
            exact ⟨rfl, below_only HBz4.out (by go_grown)⟩

end Go.Proofs.Ythfjdgdpghepoaa
