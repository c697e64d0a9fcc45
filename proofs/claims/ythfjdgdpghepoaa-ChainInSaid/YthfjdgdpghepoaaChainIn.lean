/- The law ChainIn's walk, and its plain law: an entry that is not counted changes just where one allocates. -/
import Derived.Test.YthfjdgdpghepoaaChainE
namespace Go.Proofs.Ythfjdgdpghepoaa
open Go.RowKit

theorem area_snoc (l : List Ent) (e : Ent) : area (l ++ [e]) = e.1 := by simp [area]
theorem idx_snoc (v e : Ent) (l : List Ent) (h : e ≠ v) : idx v (l ++ [e]) = idx v l := by
  induction l with
  | nil => simp [idx, h]
  | cons a l ih => simp only [List.cons_append, idx, ih]
theorem par_snoc (l : List Ent) (s a : Int) : par (l ++ [(s, false)]) a = par l a := by
  unfold par
  rw [idx_snoc _ _ _ (by simp)]
  rcases idx_cases (a, true) l with ⟨e, _⟩ | ⟨k, hk, e, _⟩
  · rw [e]; rfl
  · rw [e, if_neg (by omega), if_neg (by omega), Int.toNat_natCast, List.take_append_of_le_length (by omega)]
theorem reach_snoc (l : List Ent) (s a : Int) : reach (l ++ [(s, false)]) a = reach l a := by
  unfold reach
  rw [idx_snoc _ _ _ (by simp)]
theorem up_snoc (l : List Ent) (s a : Int) (n : Nat) (b : Int) : up (l ++ [(s, false)]) a n b = up l a n b := by
  induction n generalizing b with
  | zero => rfl
  | succ n ih => rw [up_ref, up_ref, ih, par_snoc]
theorem above_snoc (l : List Ent) (s a b : Int) : above (l ++ [(s, false)]) a b = above l a b := by
  unfold above
  rw [up_snoc]

set_option maxHeartbeats 2000000 in
theorem chainIn_core (A : Option Addr) (c n : Nat) (m : List Ent) (s a b : Int) (w : World) (hn : n ≤ c) (hc : c ≤ 9223372036854775807) (hmin : m.length = if n ≤ 5 then n else 5) (hm : m.length ≤ 5) (he : Ents w A m) :
    Calls Try.prog 4 #[.slice A n c, .int .i64 s, .agg #[.int .i64 a, .int .i64 b]] w fun e w' => e = .returned (.bool true) ∧ Below w.heap.size w w' := by
  have R1 := row_new w #[.int .i64 a, .int .i64 b] 29
  have B0 : Below w.heap.size w (w.alloc (.cells #[.int .i64 a, .int .i64 b] 29)) := by go_grown
  have HR1 := Lib.hid R1
  have Hp := Lib.hid (show push m (s, false) = (m ++ [(s, false)], 0) by rw [push, if_neg (by omega)])
  have Hmin := Lib.hid hmin
  have Hlen := Lib.hid (show (m ++ [(s, false)]).length = m.length + 1 by simp)
  clear R1 hmin
  have hm2 : m.length ≤ c := by have := Hmin.out; split at this <;> omega
  by_cases h5 : n ≤ 5
  · obtain rfl : n = m.length := by have := Hmin.out; rw [if_pos h5] at this; omega
    go_enter Try.func4, Try.ntmps4
    go_wp2_with fail
    refine (shown_any _).mono ?_
    rintro e w1 ⟨rfl, hb1⟩
    have B1 := below_only B0 hb1
    have R1 := row_below HR1.out hb1
    replace he := he.below B1
    clear HR1 hb1 B0
    obtain ⟨b10, b11, _, _⟩ := box2 R1
    have HR1 := Lib.hid R1
    clear R1
    go_wp2_with fail
    refine (push_any A c m s false _ (by omega) he).mono ?_
    rintro e w2 ⟨v1, rfl, A1, c1, rfl, hc1, hcs1, _, hb⟩
    rw [Hp.out] at hc1 hcs1 ⊢
    obtain ⟨M, HM⟩ : ∃ M, Hid (m ++ [(s, false)] = M) := ⟨_, rfl⟩
    have Ha := Lib.hid (show area M = s by rw [← HM.out, area_snoc])
    have Hr := Lib.hid (show reach M a = reach m a by rw [← HM.out, reach_snoc])
    have Hq := Lib.hid (show par M a = par m a by rw [← HM.out, par_snoc])
    have Hv := Lib.hid (show above M a b = above m a b by rw [← HM.out, above_snoc])
    have hl1 : M.length ≤ 6 := by rw [← HM.out, Hlen.out]; omega
    simp only [HM.out] at hc1 hcs1 ⊢
    have B2 := below_only B1 hb
    replace he := he.below hb
    have R1 := row_below HR1.out hb
    clear HR1 hb b10 b11 B1
    obtain ⟨b10, b11, _, _⟩ := box2 R1
    clear R1
    go_wp2_with fail
    refine (area_any A1 c1 M _ (by omega) hcs1).mono ?_
    rintro e w3 ⟨rfl, rfl⟩
    rw [Ha.out]
    go_wp2_with fail
    refine (reach_any A1 c1 M a _ (by omega) hcs1).mono ?_
    rintro e w3 ⟨rfl, hb⟩
    rw [Hr.out]
    have B3 := below_only B2 hb
    replace he := he.below hb
    replace hcs1 := hcs1.below hb
    clear hb B2
    go_wp2_with fail
    refine (reach_any A c m a _ (by omega) he).mono ?_
    rintro e w4 ⟨rfl, hb⟩
    have B4 := below_only B3 hb
    replace he := he.below hb
    replace hcs1 := hcs1.below hb
    clear hb B3
    go_wp2_with fail
    refine (par_any A1 c1 M a _ (by omega) hc1 hcs1).mono ?_
    rintro e w5 ⟨rfl, hb⟩
    rw [Hq.out]
    have B5 := below_only B4 hb
    replace he := he.below hb
    replace hcs1 := hcs1.below hb
    clear hb B4
    go_wp2_with fail
    refine (par_any A c m a _ (by omega) hm2 he).mono ?_
    rintro e w6 ⟨rfl, hb⟩
    have B6 := below_only B5 hb
    replace he := he.below hb
    replace hcs1 := hcs1.below hb
    clear hb B5
    go_wp2_with fail
    refine (above_any A1 c1 M a b _ (by omega) hc1 hcs1).mono ?_
    rintro e w7 ⟨rfl, hb⟩
    rw [Hv.out]
    have B7 := below_only B6 hb
    replace he := he.below hb
    clear hb B6 hcs1
    go_wp2_with fail
    refine (above_any A c m a b _ (by omega) hm2 he).mono ?_
    rintro e w8 ⟨rfl, hb⟩
    have B8 := below_only B7 hb
    clear hb B7 he
    go_wp2_with fail
    go_ret
    exact ⟨rfl, B8⟩
  · have Hm5 := Lib.hid (show Value.slice A 5 c = Value.slice A m.length c by have := Hmin.out; rw [if_neg h5] at this; rw [this])
    have i5 : (5 : Int) ≤ (c : Int) := by omega
    go_enter Try.func4, Try.ntmps4
    go_wp2_with fail
    refine (shown_any _).mono ?_
    rintro e w1 ⟨rfl, hb1⟩
    have B1 := below_only B0 hb1
    have R1 := row_below HR1.out hb1
    replace he := he.below B1
    clear HR1 hb1 B0
    obtain ⟨b10, b11, _, _⟩ := box2 R1
    have HR1 := Lib.hid R1
    clear R1
    go_wp2_with fail
    rw [Hm5.out]
    refine (push_any A c m s false _ (by omega) he).mono ?_
    rintro e w2 ⟨v1, rfl, A1, c1, rfl, hc1, hcs1, _, hb⟩
    rw [Hp.out] at hc1 hcs1 ⊢
    obtain ⟨M, HM⟩ : ∃ M, Hid (m ++ [(s, false)] = M) := ⟨_, rfl⟩
    have Ha := Lib.hid (show area M = s by rw [← HM.out, area_snoc])
    have Hr := Lib.hid (show reach M a = reach m a by rw [← HM.out, reach_snoc])
    have Hq := Lib.hid (show par M a = par m a by rw [← HM.out, par_snoc])
    have Hv := Lib.hid (show above M a b = above m a b by rw [← HM.out, above_snoc])
    have hl1 : M.length ≤ 6 := by rw [← HM.out, Hlen.out]; omega
    simp only [HM.out] at hc1 hcs1 ⊢
    have B2 := below_only B1 hb
    replace he := he.below hb
    have R1 := row_below HR1.out hb
    clear HR1 hb b10 b11 B1
    obtain ⟨b10, b11, _, _⟩ := box2 R1
    clear R1
    go_wp2_with fail
    refine (area_any A1 c1 M _ (by omega) hcs1).mono ?_
    rintro e w3 ⟨rfl, rfl⟩
    rw [Ha.out]
    go_wp2_with fail
    refine (reach_any A1 c1 M a _ (by omega) hcs1).mono ?_
    rintro e w3 ⟨rfl, hb⟩
    rw [Hr.out]
    have B3 := below_only B2 hb
    replace he := he.below hb
    replace hcs1 := hcs1.below hb
    clear hb B2
    go_wp2_with fail
    refine (reach_any A c m a _ (by omega) he).mono ?_
    rintro e w4 ⟨rfl, hb⟩
    have B4 := below_only B3 hb
    replace he := he.below hb
    replace hcs1 := hcs1.below hb
    clear hb B3
    go_wp2_with fail
    refine (par_any A1 c1 M a _ (by omega) hc1 hcs1).mono ?_
    rintro e w5 ⟨rfl, hb⟩
    rw [Hq.out]
    have B5 := below_only B4 hb
    replace he := he.below hb
    replace hcs1 := hcs1.below hb
    clear hb B4
    go_wp2_with fail
    refine (par_any A c m a _ (by omega) hm2 he).mono ?_
    rintro e w6 ⟨rfl, hb⟩
    have B6 := below_only B5 hb
    replace he := he.below hb
    replace hcs1 := hcs1.below hb
    clear hb B5
    go_wp2_with fail
    refine (above_any A1 c1 M a b _ (by omega) hc1 hcs1).mono ?_
    rintro e w7 ⟨rfl, hb⟩
    rw [Hv.out]
    have B7 := below_only B6 hb
    replace he := he.below hb
    clear hb B6 hcs1
    go_wp2_with fail
    refine (above_any A c m a b _ (by omega) hm2 he).mono ?_
    rintro e w8 ⟨rfl, hb⟩
    have B8 := below_only B7 hb
    clear hb B7 he
    go_wp2_with fail
    go_ret
    exact ⟨rfl, B8⟩

theorem chainIn_walk (A : Option Addr) (c : Nat) (l : List Ent) (s a b : Int) (w : World) (hl : l.length ≤ c) (hc : c ≤ maxLen) (he : Cells w A (l.flatMap entCells)) (_hq : ∀ e ∈ l, EntOk e)
    (_ : (Lit.int .i64 s).wf = true) (_ : (Lit.int .i64 a).wf = true) (_ : (Lit.int .i64 b).wf = true) :
    Calls Try.prog 4 #[.slice A l.length c, .int .i64 s, .agg #[.int .i64 a, .int .i64 b]] w fun e w' => e = .returned (.bool true) ∧ Below w.heap.size w w' :=
  chainIn_core A c l.length (l.take 5) s a b w hl (by unfold maxLen at hc; omega) (by rw [List.length_take]; split <;> omega) (by rw [List.length_take]; omega) (Ents.take (l := l) he 5)

end Go.Proofs.Ythfjdgdpghepoaa
