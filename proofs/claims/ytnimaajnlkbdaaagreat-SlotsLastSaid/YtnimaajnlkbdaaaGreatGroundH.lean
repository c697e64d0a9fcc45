/- The walk of (*Ground).Give where it takes back. -/
import Derived.Test.YtnimaajnlkbdaaaGreatMG
namespace Go.Proofs.YtnimaajnlkbdaaaGreat
open Go.RowKit

theorem give_fits {f e a n : Int} {l all : List Ext} (h : Canon f e l) (h0 : 1 ≤ n) (h8 : n % 8 = 0) (ha : a % 8 = 0) (hlo : f ≤ a) (hhi : a + n ≤ e) (_ : giveMeets a n l = false) (hall : giveAll a n l = all) : ∀ x ∈ all, Fits f e x := by
  subst hall
  intro x hx
  rcases List.mem_append.1 hx with hx | hx
  · exact h.mem (List.mem_of_mem_take hx)
  · rcases List.mem_cons.1 hx with rfl | hx
    · exact ⟨hlo, by omega, ha, h8, hhi⟩
    · exact h.mem (List.mem_of_mem_drop hx)
theorem give_pair {f e a n : Int} {l all : List Ext} (h : Canon f e l) (hm : giveMeets a n l = false) (hall : giveAll a n l = all) : all.Pairwise fun x y => x.1 + x.2 ≤ y.1 := by
  subst hall
  have hlow := giveIdx_low a l
  have hhigh := give_high h hm
  have hpw := h.pair
  have hsp : l = l.take (giveIdx a l) ++ l.drop (giveIdx a l) := (List.take_append_drop _ _).symm
  unfold giveAll
  generalize l.take (giveIdx a l) = u at *
  generalize l.drop (giveIdx a l) = v at *
  subst hsp
  rw [List.pairwise_append] at hpw
  rw [List.pairwise_append, List.pairwise_cons]
  refine ⟨hpw.1, ⟨fun y hy => hhigh y hy, hpw.2.1⟩, fun x hx y hy => ?_⟩
  rcases List.mem_cons.1 hy with rfl | hy
  · exact hlow x hx
  · exact hpw.2.2 x hx y hy

/-- the loop that joins: what has been met is joined -/
def GiveRel (w : World) (p : Nat) (f e : Int) (A9 : Option Addr) (all : List Ext) (B10 : Nat) (t : Value) (wr : World) : Prop :=
  ∃ (k : Nat) (Ao : Option Addr) (co : Nat), k ≤ all.length ∧ t = .int .i64 k ∧ Cells wr A9 (all.flatMap extCells) ∧
    wr.heap[p]? = some (.cells #[.int .i64 f, .int .i64 e, .slice Ao (joins (all.take k)).length co] 165 (0, 0)) ∧
    wr.ownsRow B10 121 2 (.slice Ao (joins (all.take k)).length co) (joins (all.take k)).length ((joins (all.take k)).flatMap extCells) ∧ Keep [p] w wr ∧ B10 ≤ wr.heap.size

set_option maxRecDepth 100000 in
set_option maxHeartbeats 8000000 in
theorem give_yes (B p : Nat) (f e : Int) (l : List Ext) (q : Option Nat) (a n : Int) (w : World) (h : Gr B w p f e l q) (hn : giveBad f e a n = false) (hm : giveMeets a n l = false) :
    Calls Tryz.prog 99 #[.pointer (some ⟨p, 0, none⟩), .int .i64 a, .int .i64 n] w
      fun r w' => r = .returned (.int .i64 0) ∧ (∃ q', Gr B w' p f e (joins (giveAll a n l)) q' ∧ ∀ i, q' = some i → w.heap.size ≤ i) ∧ Keep [p] w w' := by
  obtain ⟨h0, h8, a8, g0, g1, g2⟩ := give_ok hn
  have hG := Lib.hid h
  have hsz := h.size
  have hpw := h.lt.1
  have hBp := h.low
  have f0 := h.f0
  have e1 := h.e1
  have hcan := Lib.hid h.can
  obtain ⟨A, c, h1, h2, h3⟩ := h.mem
  have hc := Cells.of_own h2
  have hd1 : decide (n < 1) = false := decide_eq_false (by omega)
  have hd8 : ((n % 8 : Int) != 0) = false := by rw [h8]; rfl
  have ha8 : ((a.tmod 8 : Int) != 0) = false := by rw [tmod8_ne]; simp [a8]
  have ha8' : ((a % 8 : Int) != 0) = false := by rw [a8]; rfl
  have hin : inB a f (e - 1) = true := inB_t ⟨g0, g1⟩
  have hd9 : decide (e - a < n) = false := decide_eq_false (by omega)
  have hbd : ∀ x ∈ l, -9223372036854775808 ≤ x.1 + x.2 ∧ x.1 + x.2 ≤ 9223372036854775807 := by
    intro x hx
    have := h.can.mem hx
    omega
  have Hbd := Lib.hid hbd
  have H8 := Lib.hid h8
  have HA8 := Lib.hid a8
  have H1 := Lib.hid h1
  have H2 := Lib.hid h2
  have H3 := Lib.hid h3
  obtain ⟨b0, b1, b2, _, _, _⟩ := box3 h1
  clear h h1 h2 h3 h8 a8 hn hbd
  obtain ⟨i0, hi0, hz0, hz1, hz2⟩ := info_parts infoExt
  have Hm := Lib.hid hm
  cases hi : giveAt a l with
  | none =>
    have hidx : giveIdx a l = l.length := by rw [giveIdx, hi]; rfl
    have Hidx := Lib.hid hidx
    have Hi := Lib.hid hi
    have a4 : ¬ l.length < l.length := by omega
    have a5 : decide (l.length < l.length) = false := decide_eq_false a4
    have a7 : decide ((l.length : Int) < (l.length : Int)) = false := decide_eq_false (by omega)
    have s1 : -9223372036854775808 ≤ a + n := by omega
    have s2 : a + n ≤ 9223372036854775807 := by omega
    have hlc : l.length ≤ c := by obtain ⟨_, _, h, hc, _⟩ := own_slice H2.out; injection h with _ _ h; omega
    have c1 : (l.length : Int) ≤ (c : Int) := by omega
    have Hnone := Lib.hid (show A = none → l.length = 0 ∧ l.length = 0 from fun h => by
      subst h
      rcases H2.out.2 with ⟨_, h0⟩ | ⟨g, cap, cur, hv, _⟩
      · exact ⟨h0, h0⟩
      · cases hv)
    have Htake := Lib.hid (exts_len l)
    clear hi hidx hm
    go_enter Tryz.func99, Tryz.ntmps99
    go_wp2
    go_quiet ((go_at_call 32; exact Calls.quiet_of_same (within_any _ _ _ _)))
    go_wp2_with fail
    refine (find_give A c l w.heap.size a _ (by omega) (Cells.drewN (Cells.alloc hc _) _) (box1 (heap_drewN (row_new _ _ _))).1 Hbd.out).mono ?_
    rintro r w1 ⟨rfl, hb⟩
    rw [Hi.out]
    simp only [idxI]
    have Hp1 := Lib.hid (row_below (heap_drewN (row_alloc H1.out)) hb)
    have Hn1 := Lib.hid (row_below (heap_drewN (row_new w #[.int .i64 a] 3)) hb)
    have B1 : Below w.heap.size w w1 := below_only (below_drewN (by go_grown) _) hb
    have hc1 := Cells.below (Cells.drewN (Cells.alloc hc _) _) hb
    obtain ⟨_, _, b2, _, _, b2f⟩ := box3 Hp1.out
    obtain ⟨n0, _⟩ := box1 Hn1.out
    clear hb hc

    have hdropX : ∀ {W : World}, Exts W A l → ∀ A', Cells W A' ((l.drop l.length).flatMap extCells) := by
      intro W hW A'
      rw [List.drop_length]
      exact Cells.nil
    obtain ⟨X, hX⟩ : ∃ X, (if c = l.length then A else Option.map (fun x : Addr => x.add (l.length * 2)) A) = X := ⟨_, rfl⟩
    go_wp2
    go_quiet (fail)
    go_wp2
    have Hp2 := Lib.hid (heap_drewN (n := nq) Hp1.out)
    have Hn2 := Lib.hid (heap_drewN (n := nq) Hn1.out)
    have B2 := below_drewN B1 nq
    have hc2 := Cells.drewN hc1 nq
    have hctake := hc2
    generalize w1.drewN nq = w2 at *
    clear Hp1 Hn1 B1 hc1 b2 b2f n0 
    obtain ⟨-, -, b2, -, -, b2f⟩ := box3 Hp2.out
    obtain ⟨n0, -⟩ := box1 Hn2.out
    have p1 : p < w2.heap.size := lt_of_heap Hp2.out
    have p2 : w.heap.size < w2.heap.size := lt_of_heap Hn2.out
    go_region_held3 (Old w2) ((go_split_ands; refine old_of ?_; first | (go_grown; done) | (refine below_drewN ?_ _; go_grown; done) | (refine Below.grown ?_ (by assumption) (by simp) (by simp); go_grown; done))) (first | (refine step_append_grows rfl (.tmp 88) (.tmp 92) _ (by rfl) 121 i0 _ 2 16 Tryz.underlying163 hi0 hz0 hz1 hz2 rfl (by omega) A l.length l.length (l.flatMap extCells) (by rfl) Hnone.out Htake.out (cells_add (by first | exact Cells.alloc (Cells.drew hctake) _ | exact Cells.alloc hctake _)) ⟨w2.heap.size, 0, none⟩ 1 1 [.int .i64 a, .int .i64 n] (by rfl) rfl (row_add (row_new _ _ _)) (extCells_one (a, n)) (by omega) (by simp only [maxLen]; omega) (by omega) ?_; intro v8 w8 hown8 hg8))
    have B8 : Below w.heap.size w w8 := Below.grown ((B2.drew.alloc (Nat.le_of_lt (Nat.lt_of_lt_of_le p2 (by simp))) _)) hg8 (Nat.le_of_lt (by simp; omega)) (by simp)
    have Hp8 := Lib.hid (row_grown (row_alloc (o' := .cells #[.int .i64 a, .int .i64 n] 121) (heap_drew Hp2.out)) hg8 (by simp))
    have hdrop := fun A' => Cells.grown (Cells.alloc (Cells.drew (hdropX hc2 A')) _) hg8 (by simp)
    have hown8' := own_mono (B := w.heap.size) hown8 (by simp; omega)
    obtain ⟨A8, c8, rfl, k8, -, -⟩ := own_slice hown8'
    have Hown8 := Lib.hid hown8'
    have hne8 := Lib.hid (show (Value.slice A8 (l.length + 1) c8).ownBlock ≠ some p from fun h => by have := own_ge hown8' _ h; omega)
    clear hown8 hown8' hg8 Hp2 Hn2 B2 hc2 hctake b2 b2f n0 p1 p2
    obtain ⟨-, -, b2, -, -, b2f⟩ := box3 Hp8.out
    have p1 : p < w8.heap.size := lt_of_heap Hp8.out
    obtain ⟨all, Hall⟩ : ∃ all, Hid (giveAll a n l = all) := ⟨_, rfl⟩
    have hal : all.length = l.length + 1 := by rw [← Hall.out, giveAll, List.length_append, List.length_cons, List.length_take, List.length_drop]; have := giveIdx_le a l; omega
    have hcs : l.flatMap extCells ++ [Value.int .i64 a, .int .i64 n] ++ (l.drop l.length).flatMap extCells = all.flatMap extCells := by
      rw [← Hall.out, giveAll, Hidx.out]
      simp [extCells]
    have Hcs := Lib.hid hcs
    have Hlen := Lib.hid (show l.length + 1 + 0 = all.length from hal.symm)
    have hal1 : all.length ≤ 131073 := by omega
    clear hcs hal
    go_wp2_with (at_builtin; refine wpList_append_any _ rfl (.tmp 94) (.tmp 100) _ (by rfl) w.heap.size 121 i0 _ 2 16 Tryz.underlying163 hi0 hz0 hz1 hz2 rfl (by omega) _ (l.length + 1) _ (by rfl) Hown8.out _ 0 _ ((l.drop l.length).flatMap extCells) (by rfl) (by rw [List.drop_length]; rfl) (hdrop _) (exts_one _) (by simp only [maxLen]; omega) (by omega) B8.size ?_; intro v9 w9 hown9 hg9 hat9; rw [Hlen.out, Hcs.out] at hown9; obtain ⟨A9, c9, rfl, k9, m9, hc9⟩ := own_slice hown9; have Hp9 := Lib.hid (row_grown Hp8.out hg9 hne8.out); have q2 := (box3 Hp9.out).2.2.1; have q2f := (box3 Hp9.out).2.2.2.2.2)
    have B9 : Below w.heap.size w w9 := B8.grown hg9 B8.size (fun k hk => own_ge Hown8.out k hk)
    have K10 := (keep_below B9 [p]).setCell (p := ⟨p, 2, none⟩) (.inl (by simp)) (.slice none 0 0)
    have Hp10 : (w9.setCell ⟨p, 2, none⟩ (.slice none 0 0)).heap[p]? = some (.cells #[.int .i64 f, .int .i64 e, .slice none 0 0] 165 (0, 0)) := by
      have := row_set (i := 2) Hp9.out (.slice none 0 0)
      simpa using this
    have hA9 : ∀ ad, A9 = some ad → w.heap.size ≤ ad.block ∧ ad.block < w9.heap.size := by
      intro ad had
      have := hown9.lt ad.block (by rw [had]; rfl)
      exact this
    have hc10 : Cells (w9.setCell ⟨p, 2, none⟩ (.slice none 0 0)) A9 (all.flatMap extCells) := hc9.setCell (fun ad had => by have := (hA9 ad had).1; simp only; omega) _
    have z10 : w9.heap.size = (w9.setCell ⟨p, 2, none⟩ (.slice none 0 0)).heap.size := by simp [World.setCell]
    rw [z10] at hA9
    generalize w9.setCell ⟨p, 2, none⟩ (.slice none 0 0) = w10 at *
    have HA9 := Lib.hid hA9
    have hpw10 : p < w10.heap.size := lt_of_heap Hp10
    have hsz10 : w.heap.size ≤ w10.heap.size := K10.size
    have Hfits := Lib.hid (give_fits hcan.out h0 H8.out HA8.out g0 (by omega) Hm.out Hall.out)
    have Hpair := Lib.hid (give_pair hcan.out Hm.out Hall.out)
    obtain ⟨B10, HB10⟩ : ∃ B10, Hid (w10.heap.size = B10) := ⟨_, rfl⟩
    have hpB : p < B10 := by rw [← HB10.out]; exact hpw10
    have hwB : w.heap.size ≤ B10 := by rw [← HB10.out]; exact hsz10
    have HC10 := Lib.hid hc10
    have HP10 := Lib.hid Hp10
    have HK10 := Lib.hid K10
    clear hc10 Hp10 K10 hA9 z10 B9 B8 Hp9 Hown8 hown9 hg9 hat9 hc9 Hp8 q2 q2f b2 b2f hne8 hdrop p1 hpw10 hsz10 b0 b1
    go_loopw [10, 11, 107] (fun _ _ t wr => GiveRel w p f e A9 all B10 t wr) (fun _ _ t _ => all.length - (intOf t).toNat)
    case atStart => exact ⟨0, none, 0, Nat.zero_le _, rfl, HC10.out, HP10.out, World.ownsRow_nil _ _ _ _, HK10.out, Nat.le_of_eq HB10.out.symm⟩
    case round =>
      obtain ⟨k, Ao, co, hk, rfl, hca, hp, hown, hkeep, hB⟩ := hrel
      have Hca := Lib.hid hca
      have Hp := Lib.hid hp
      have Hown := Lib.hid hown
      have Hkeep := Lib.hid hkeep
      have hpr : p < wr.heap.size := lt_of_heap hp
      clear hca hp hown hkeep
      by_cases hlt : k < all.length
      · obtain ⟨x, hx⟩ : ∃ x, all[k]? = some x := ⟨_, List.getElem?_eq_getElem hlt⟩
        have htk : joins (all.take (k + 1)) = join1 (joins (all.take k)) x := by rw [List.take_succ_eq_append_getElem hlt, joins_snoc]; congr 1; rw [List.getElem?_eq_getElem hlt] at hx; injection hx
        have hxb := (Hfits.out x (List.mem_of_getElem? hx))
        obtain ⟨b9, o9, hA9, hb9, hcx⟩ := exts_at Hca.out (by omega)
        obtain ⟨x0, x1⟩ := hcx k x hx
        have hb9' := (HA9.out _ hA9)
        simp only at hb9'
        subst hA9
        have Hx := Lib.hid hx
        have Htk := Lib.hid htk
        have hout := joins_fit (lo := f) (hi := e) (all.take k) (fun y hy => Hfits.out y (List.mem_of_mem_take hy)) (Hpair.out.sublist (List.take_sublist _ _))
        have hol : (joins (all.take k)).length ≤ k := by have := joins_len (all.take k); rw [List.length_take] at this; omega
        have Hout := Lib.hid hout
        clear hx htk hcx hout
        obtain ⟨out, Hjo⟩ : ∃ out, Hid (joins (all.take k) = out) := ⟨_, rfl⟩
        rw [Hjo.out] at Htk Hp Hown Hout hol
        obtain ⟨-, -, g2, -, -, g2f⟩ := box3 Hp.out
        obtain ⟨hx1, hx2, -, -, hx5⟩ := hxb
        rcases List.eq_nil_or_concat out with hn | ⟨o, y, hn⟩
        · subst hn
          rw [List.length_nil] at *
          have hd0 : decide ((0 : Int) - 1 ≥ 0) = false := by decide
          have hd1 : decide ((0 : Int) ≤ (0 : Int) - 1) = false := by decide
          have hd2 : decide ((0 : Int) ≤ -1) = false := by decide
          have hj1 : join1 [] x = [x] := rfl
          have Hj1 := Lib.hid hj1
          clear hj1
          have hneo := Lib.hid (show (Value.slice Ao 0 co).ownBlock ≠ some p from fun h => by have := own_ge Hown.out _ h; omega)
          go_wp2
          go_quiet (fail)
          go_wp2
          go_region_law (first | (refine step_append_any _ rfl (.tmp 158) (.tmp 160) _ (by rfl) B10 121 i0 _ 2 16 Tryz.underlying163 hi0 hz0 hz1 hz2 rfl (by omega) _ 0 (([] : List Ext).flatMap extCells) (by rfl) (own_below Hown.out (by repeat (first | exact Below.refl _ _ | refine below_drewN ?_ _ | refine Below.drew ?_ | refine Below.alloc ?_ (by simp <;> omega) _))) (some ⟨wr.heap.size + 1, 0, none⟩) 1 1 [.int .i64 x.1, .int .i64 x.2] (by rfl) rfl (cells_two (by simp [go_sem]) (by simp [go_sem])) (extCells_one x) (by simp only [maxLen]; omega) (by omega) (by simp; omega) ?_; intro v11 w11 hown11 hg11 hat11; have Hp11 := Lib.hid (row_grown (row_below Hp.out (by repeat (first | exact Below.refl _ _ | refine below_drewN ?_ _ | refine Below.drew ?_ | refine Below.alloc ?_ (by simp <;> omega) _))) hg11 hneo.out); have q2 := (box3 Hp11.out).2.2.1; have q2f := (box3 Hp11.out).2.2.2.2.2; have B11 := Lib.hid (keep_grown (S := (Value.slice Ao 0 co).ownBlock.toList) hg11 (fun k hk => .inl (by simp [hk]))); obtain ⟨A11, c11, rfl, -, -, -⟩ := own_slice hown11; have Hown11 := Lib.hid hown11; clear hown11 hg11 hat11))
          all_goals
            go_wp2
            go_roundw
            case rel =>
              have hown11 := Hown11.out
              have K11 : Keep ((Value.slice Ao 0 co).ownBlock.toList) wr w11 := (keep_below (by repeat (first | exact Below.refl _ _ | refine below_drewN ?_ _ | refine Below.drew ?_ | refine Below.alloc ?_ (by simp <;> omega) _)) _).trans B11.out
              have hoq : ∀ i, i ∈ (Value.slice Ao 0 co).ownBlock.toList → B10 ≤ i := fun i hi => own_ge Hown.out i (by simpa using hi)
              have hlo : joins (all.take (k + 1)) = ([] : List Ext) ++ [x] := by rw [Htk.out, Hj1.out]; first | done | rfl
              have hln : 0 + 1 = (([] : List Ext) ++ [x]).length := by simp
              have hcl : ([] : List Ext).flatMap extCells ++ [Value.int .i64 x.1, .int .i64 x.2] = (([] : List Ext) ++ [x]).flatMap extCells := by simp [extCells]
              rw [hln, hcl] at hown11
              refine ⟨k + 1, A11, c11, hlt, by go_num, ?_, ?_, ?_, ?_, ?_⟩
              · refine (Hca.out.kept K11 (fun ad had hm => ?_)).setCell (fun ad had => ?_) _
                · injection had with had
                  subst had
                  have h1 : B10 ≤ b9 := hoq b9 hm
                  have := hb9'.2
                  have := HB10.out
                  omega
                · injection had with had
                  subst had
                  have := hb9'.1
                  simp only
                  omega
              · rw [hlo]
                have := row_set (i := 2) Hp11.out (.slice A11 (0 + 1) c11)
                rw [hln] at this
                simpa using this
              · rw [hlo]
                exact own_kept hown11 ((Keep.refl [p] w11).setCell (p := ⟨p, 2, none⟩) (.inl (by simp)) _) (fun i hi => by have := own_ge hown11 i hi; simp; omega)
              · exact (Hkeep.out.then K11 (fun i hi hm => by have := hoq i hm; omega)).setCell (p := ⟨p, 2, none⟩) (.inl (by simp)) _
              · have := K11.size
                simp [World.setCell]
                omega
            case measure => simp [intOf]; omega

        · rw [List.concat_eq_append] at hn
          subst hn
          rw [List.length_append, List.length_singleton] at g2 hol
          have hy := Hout.out.1.mem (x := y) (by simp)
          obtain ⟨hy1, hy2, -, -, hy5⟩ := hy
          have Hown' := Hown.out
          rw [List.length_append, List.length_singleton] at Hown'
          obtain ⟨go, cur, hAo, hgo, hBgo, hnc, hcm, hcs, hcur, hcy⟩ := own_ext Hown' (by omega)
          subst hAo
          obtain ⟨y0, y1⟩ := hcy o.length y (by omega) (by simp)
          have y1f : wr.frozen? ⟨go, o.length * 2 + 1, none⟩ = false := row_frozen hgo _
          have hgow := lt_of_heap hgo
          have Hgo := Lib.hid hgo
          have Hcs2 := Lib.hid hcs
          have Hcur := Lib.hid hcur
          have s3 : -9223372036854775808 ≤ y.1 + y.2 := by omega
          have s4 : y.1 + y.2 ≤ 9223372036854775807 := by omega
          have s5 : -9223372036854775808 ≤ y.2 + x.2 := by omega
          have s6 : y.2 + x.2 ≤ 9223372036854775807 := by have := Hfits.out x (List.mem_of_getElem? Hx.out); unfold Fits at this; omega
          have d0 : decide ((0 : Int) ≤ (o.length : Int)) = true := decide_eq_true (by omega)
          have d1 : decide ((o.length : Int) ≥ 0) = true := decide_eq_true (by omega)
          have d2 : 0 ≤ (o.length : Int) := by omega
          have d3 : (o.length : Int) < (o.length : Int) + 1 := by omega
          have hp' := Hp.out
          rw [List.length_append, List.length_singleton] at hp'
          have Hcm := Lib.hid hcm
          clear Hown Hp
          have Hown := Lib.hid Hown'
          have Hp := Lib.hid hp'
          clear hgo hcs hcur hcy Hown' hcm hp'
          by_cases heq : y.1 + y.2 = x.1
          · have hq : ((y.1 + y.2 : Int) == x.1) = true := by simp [heq]
            have hj1 : join1 (o ++ [y]) x = o ++ [(y.1, y.2 + x.2)] := by simp [join1, heq]
            have Hj1 := Lib.hid hj1
            clear hj1 heq
            go_wp2
            go_quiet (fail)
            go_wp2
            go_region
            go_wp2
            go_roundw
            case rel =>
              have hlo : joins (all.take (k + 1)) = o ++ [(y.1, y.2 + x.2)] := by rw [Htk.out, Hj1.out]
              have hln : (o ++ [(y.1, y.2 + x.2)]).length = o.length + 1 := by simp
              generalize hW : World.setCell _ ⟨go, o.length * 2 + 1, none⟩ _ = W16
              have hg16 : W16.heap[go]? = some (.cells (cur.setIfInBounds (o.length * 2 + 1) (.int .i64 (y.2 + x.2))) 121 (0, 0)) := by
                rw [← hW]
                exact row_set (row_below Hgo.out (by repeat (first | exact Below.refl _ _ | refine below_drewN ?_ _ | refine Below.drew ?_ | refine Below.alloc ?_ (by simp <;> omega) _))) _
              have K16 : Keep [go] wr W16 := by
                rw [← hW]
                repeat (first | exact Keep.refl _ _ | refine Keep.drewN ?_ _ | refine Keep.drew ?_ | refine Keep.setCell ?_ (.inl (by simp)) _ | refine Keep.alloc ?_ _)
              refine ⟨k + 1, some ⟨go, 0, none⟩, co, hlt, by go_num, ?_, ?_, ?_, ?_, ?_⟩
              · refine Hca.out.kept K16 (fun ad had hm => ?_)
                injection had with had
                subst had
                simp at hm
                have := hb9'.2
                have := HB10.out
                omega
              · rw [hlo, hln]
                exact K16.row Hp.out (by simp; omega)
              · rw [hlo, hln]
                exact own_set2 (y.2 + x.2) hg16 hBgo rfl hnc Hcs2.out Hcm.out Hcur.out
              · exact Hkeep.out.then K16 (fun i hi hm => by simp at hm; omega)
              · have := K16.size
                omega
            case measure => simp [intOf]; omega
          · have hq : ((y.1 + y.2 : Int) == x.1) = false := by simp [heq]
            have hj1 : join1 (o ++ [y]) x = (o ++ [y]) ++ [x] := by simp [join1, heq]
            have Hj1 := Lib.hid hj1
            have hneo := Lib.hid (show (Value.slice (some ⟨go, 0, none⟩) (o.length + 1) co).ownBlock ≠ some p from fun h => by simp [Value.ownBlock] at h; omega)
            clear hj1 heq
            go_wp2
            go_quiet (fail)
            go_wp2
            go_region_law (first | (refine step_append_any _ rfl (.tmp 158) (.tmp 160) _ (by rfl) B10 121 i0 _ 2 16 Tryz.underlying163 hi0 hz0 hz1 hz2 rfl (by omega) _ (o.length + 1) ((o ++ [y]).flatMap extCells) (by rfl) (own_below Hown.out (by repeat (first | exact Below.refl _ _ | refine below_drewN ?_ _ | refine Below.drew ?_ | refine Below.alloc ?_ (by simp <;> omega) _))) (some ⟨wr.heap.size + 1, 0, none⟩) 1 1 [.int .i64 x.1, .int .i64 x.2] (by rfl) rfl (cells_two (by simp [go_sem]) (by simp [go_sem])) (extCells_one x) (by simp only [maxLen]; omega) (by omega) (by simp; omega) ?_; intro v11 w11 hown11 hg11 hat11; have Hp11 := Lib.hid (row_grown (row_below Hp.out (by repeat (first | exact Below.refl _ _ | refine below_drewN ?_ _ | refine Below.drew ?_ | refine Below.alloc ?_ (by simp <;> omega) _))) hg11 hneo.out); have q2 := (box3 Hp11.out).2.2.1; have q2f := (box3 Hp11.out).2.2.2.2.2; have B11 := Lib.hid (keep_grown (S := (Value.slice (some ⟨go, 0, none⟩) (o.length + 1) co).ownBlock.toList) hg11 (fun k hk => .inl (by simp [hk]))); obtain ⟨A11, c11, rfl, -, -, -⟩ := own_slice hown11; have Hown11 := Lib.hid hown11; clear hown11 hg11 hat11))
            all_goals
              go_wp2
              go_roundw
              case rel =>
                have hown11 := Hown11.out
                have K11 : Keep ((Value.slice (some ⟨go, 0, none⟩) (o.length + 1) co).ownBlock.toList) wr w11 := (keep_below (by repeat (first | exact Below.refl _ _ | refine below_drewN ?_ _ | refine Below.drew ?_ | refine Below.alloc ?_ (by simp <;> omega) _)) _).trans B11.out
                have hoq : ∀ i, i ∈ (Value.slice (some ⟨go, 0, none⟩) (o.length + 1) co).ownBlock.toList → B10 ≤ i := fun i hi => own_ge Hown.out i (by simpa using hi)
                have hlo : joins (all.take (k + 1)) = (o ++ [y]) ++ [x] := by rw [Htk.out, Hj1.out]; first | done | rfl
                have hln : (o.length + 1) + 1 = ((o ++ [y]) ++ [x]).length := by simp
                have hcl : (o ++ [y]).flatMap extCells ++ [Value.int .i64 x.1, .int .i64 x.2] = ((o ++ [y]) ++ [x]).flatMap extCells := by simp [extCells]
                rw [hln, hcl] at hown11
                refine ⟨k + 1, A11, c11, hlt, by go_num, ?_, ?_, ?_, ?_, ?_⟩
                · refine (Hca.out.kept K11 (fun ad had hm => ?_)).setCell (fun ad had => ?_) _
                  · injection had with had
                    subst had
                    have h1 : B10 ≤ b9 := hoq b9 hm
                    have := hb9'.2
                    have := HB10.out
                    omega
                  · injection had with had
                    subst had
                    have := hb9'.1
                    simp only
                    omega
                · rw [hlo]
                  have := row_set (i := 2) Hp11.out (.slice A11 ((o.length + 1) + 1) c11)
                  rw [hln] at this
                  simpa using this
                · rw [hlo]
                  exact own_kept hown11 ((Keep.refl [p] w11).setCell (p := ⟨p, 2, none⟩) (.inl (by simp)) _) (fun i hi => by have := own_ge hown11 i hi; simp; omega)
                · exact (Hkeep.out.then K11 (fun i hi hm => by have := hoq i hm; omega)).setCell (p := ⟨p, 2, none⟩) (.inl (by simp)) _
                · have := K11.size
                  simp [World.setCell]
                  omega
              case measure => simp [intOf]; omega

      · obtain rfl : k = all.length := by omega
        go_wp2
        go_ret
        rw [List.take_length] at *
        refine ⟨rfl, ⟨(Value.slice Ao (joins all).length co).ownBlock, ?_, fun i hi => ?_⟩, Hkeep.out⟩
        · rw [Hall.out]
          have hcanon := (joins_fit (lo := f) (hi := e) all Hfits.out Hpair.out).1
          exact ⟨⟨Ao, co, Hp.out, own_mono Hown.out (by omega), rfl⟩, fun h => by have := own_ge Hown.out _ h; omega, hBp, hcanon, f0, hG.out.fe, e1⟩
        · have := own_ge Hown.out _ hi
          omega

  | some i =>
    obtain ⟨x, hx, hil, hpx, _⟩ := findIdx_some hi
    have hpx' : a < x.1 + x.2 := by simpa using hpx
    have hxm := hcan.out.mem (List.mem_of_getElem? hx)
    obtain ⟨b, off, hA, _, hcx⟩ := exts_at hc (by omega)
    subst hA
    have hidx : giveIdx a l = i := by rw [giveIdx, hi]; rfl
    have Hx := Lib.hid hx
    have Hi := Lib.hid hi
    have Hidx := Lib.hid hidx
    have a1 : 0 ≤ (i : Int) := by omega
    have a2 : (i : Int) < (l.length : Int) := by omega
    have a3 : decide ((i : Int) < (l.length : Int)) = true := decide_eq_true a2
    have a4 : i < l.length := hil
    have a5 : decide (i < l.length) = true := decide_eq_true hil
    have a6 : ¬ (i : Int) < 0 := by omega
    have a7 : decide ((i : Int) < 0) = false := decide_eq_false a6
    have s1 : -9223372036854775808 ≤ a + n := by omega
    have s2 : a + n ≤ 9223372036854775807 := by omega
    have hlt : ¬ x.1 < a + n := by
      rw [giveMeets, hidx, hx] at hm
      simpa using hm
    have hltd : decide (x.1 < a + n) = false := decide_eq_false hlt
    clear hi hx hidx hm hpx hcx
    go_enter Tryz.func99, Tryz.ntmps99
    go_wp2
    go_quiet ((go_at_call 32; exact Calls.quiet_of_same (within_any _ _ _ _)))
    go_wp2_with fail
    refine (find_give (some ⟨b, off, none⟩) c l w.heap.size a _ (by omega) (Cells.drewN (Cells.alloc hc _) _) (box1 (heap_drewN (row_new _ _ _))).1 Hbd.out).mono ?_
    rintro r w1 ⟨rfl, hb⟩
    rw [Hi.out]
    simp only [idxI]
    have Hp1 := Lib.hid (row_below (heap_drewN (row_alloc H1.out)) hb)
    have Hn1 := Lib.hid (row_below (heap_drewN (row_new w #[.int .i64 a] 3)) hb)
    have B1 : Below w.heap.size w w1 := below_only (below_drewN (by go_grown) _) hb
    have hc1 := Cells.below (Cells.drewN (Cells.alloc hc _) _) hb
    obtain ⟨_, _, b2, _, _, b2f⟩ := box3 Hp1.out
    obtain ⟨n0, _⟩ := box1 Hn1.out
    clear hb hc
    obtain ⟨b', off', hA', _, hcx1⟩ := exts_at hc1 (by omega)
    injection hA' with hA'
    injection hA' with hb' ho'
    subst hb' ho'
    obtain ⟨x0, x1⟩ := hcx1 i x Hx.out
    clear hcx1
    have hctakeX : ∀ {W : World}, Exts W (some ⟨b, off, none⟩) l → Cells W (some ⟨b, off, none⟩) ((l.take i).flatMap extCells) := by
      intro W hW
      rw [flat_take extCells 2 extCells_length]
      exact Cells.take hW _
    have Hnone := Lib.hid (show (some ⟨b, off, none⟩ : Option Addr) = none → i = 0 ∧ i = 0 from fun h => by cases h)
    have Htake := Lib.hid (show ((l.take i).flatMap extCells).length = i * 2 by rw [exts_len, List.length_take]; omega)
    have hdropX : ∀ {W : World}, Exts W (some ⟨b, off, none⟩) l → Cells W (some ⟨b, off + i * 2, none⟩) ((l.drop i).flatMap extCells) := by
      intro W hW
      rw [flat_drop extCells 2 extCells_length]
      refine Cells.drop hW (fun b' off' hlt he => ?_)
      injection he with he
      injection he with he1 he2
      subst he1 he2
      rfl
    have c0 : l.length ≤ c := by have := own_slice H2.out; obtain ⟨_, _, h, hc, _⟩ := this; injection h with _ _ h; omega
    have c1 : (i : Int) ≤ (c : Int) := by omega
    have c2 : i ≤ c := by omega
    have c3 : ¬ c = i := by omega

    go_wp2
    go_quiet (fail)
    go_wp2
    have Hp2 := Lib.hid (heap_drewN (n := nq) Hp1.out)
    have Hn2 := Lib.hid (heap_drewN (n := nq) Hn1.out)
    have B2 := below_drewN B1 nq
    have hc2 := Cells.drewN hc1 nq
    have hctake := hctakeX hc2
    generalize w1.drewN nq = w2 at *
    clear Hp1 Hn1 B1 hc1 b2 b2f n0 x0 x1
    obtain ⟨-, -, b2, -, -, b2f⟩ := box3 Hp2.out
    obtain ⟨n0, -⟩ := box1 Hn2.out
    have p1 : p < w2.heap.size := lt_of_heap Hp2.out
    have p2 : w.heap.size < w2.heap.size := lt_of_heap Hn2.out
    go_region_held3 (Old w2) ((go_split_ands; refine old_of ?_; first | (go_grown; done) | (refine below_drewN ?_ _; go_grown; done) | (refine Below.grown ?_ (by assumption) (by simp) (by simp); go_grown; done))) (first | (refine step_append_grows rfl (.tmp 88) (.tmp 92) _ (by rfl) 121 i0 _ 2 16 Tryz.underlying163 hi0 hz0 hz1 hz2 rfl (by omega) (some ⟨b, off, none⟩) i i ((l.take i).flatMap extCells) (by rfl) Hnone.out Htake.out (cells_add (by first | exact Cells.alloc (Cells.drew hctake) _ | exact Cells.alloc hctake _)) ⟨w2.heap.size, 0, none⟩ 1 1 [.int .i64 a, .int .i64 n] (by rfl) rfl (row_add (row_new _ _ _)) (extCells_one (a, n)) (by omega) (by simp only [maxLen]; omega) (by omega) ?_; intro v8 w8 hown8 hg8))
    have B8 : Below w.heap.size w w8 := Below.grown ((B2.drew.alloc (Nat.le_of_lt (Nat.lt_of_lt_of_le p2 (by simp))) _)) hg8 (Nat.le_of_lt (by simp; omega)) (by simp)
    have Hp8 := Lib.hid (row_grown (row_alloc (o' := .cells #[.int .i64 a, .int .i64 n] 121) (heap_drew Hp2.out)) hg8 (by simp))
    have hdrop := Cells.grown (Cells.alloc (Cells.drew (hdropX hc2)) _) hg8 (by simp)
    have hown8' := own_mono (B := w.heap.size) hown8 (by simp; omega)
    obtain ⟨A8, c8, rfl, k8, -, -⟩ := own_slice hown8'
    have Hown8 := Lib.hid hown8'
    have hne8 := Lib.hid (show (Value.slice A8 (i + 1) c8).ownBlock ≠ some p from fun h => by have := own_ge hown8' _ h; omega)
    clear hown8 hown8' hg8 Hp2 Hn2 B2 hc2 hctake b2 b2f n0 p1 p2
    obtain ⟨-, -, b2, -, -, b2f⟩ := box3 Hp8.out
    have p1 : p < w8.heap.size := lt_of_heap Hp8.out
    obtain ⟨all, Hall⟩ : ∃ all, Hid (giveAll a n l = all) := ⟨_, rfl⟩
    have hal : all.length = l.length + 1 := by rw [← Hall.out, giveAll, List.length_append, List.length_cons, List.length_take, List.length_drop]; have := giveIdx_le a l; omega
    have hcs : (l.take i).flatMap extCells ++ [Value.int .i64 a, .int .i64 n] ++ (l.drop i).flatMap extCells = all.flatMap extCells := by
      rw [← Hall.out, giveAll, Hidx.out]
      simp [extCells]
    have Hcs := Lib.hid hcs
    have Hlen := Lib.hid (show i + 1 + (l.length - i) = all.length from (by rw [hal]; omega))
    have hal1 : all.length ≤ 131073 := by omega
    clear hcs hal
    go_wp2_with (at_builtin; refine wpList_append_any _ rfl (.tmp 94) (.tmp 100) _ (by rfl) w.heap.size 121 i0 _ 2 16 Tryz.underlying163 hi0 hz0 hz1 hz2 rfl (by omega) _ (i + 1) _ (by rfl) Hown8.out _ (l.length - i) _ ((l.drop i).flatMap extCells) (by rfl) (by rw [exts_len, List.length_drop]) hdrop (exts_one _) (by simp only [maxLen]; omega) (by omega) B8.size ?_; intro v9 w9 hown9 hg9 hat9; rw [Hlen.out, Hcs.out] at hown9; obtain ⟨A9, c9, rfl, k9, m9, hc9⟩ := own_slice hown9; have Hp9 := Lib.hid (row_grown Hp8.out hg9 hne8.out); have q2 := (box3 Hp9.out).2.2.1; have q2f := (box3 Hp9.out).2.2.2.2.2)
    have B9 : Below w.heap.size w w9 := B8.grown hg9 B8.size (fun k hk => own_ge Hown8.out k hk)
    have K10 := (keep_below B9 [p]).setCell (p := ⟨p, 2, none⟩) (.inl (by simp)) (.slice none 0 0)
    have Hp10 : (w9.setCell ⟨p, 2, none⟩ (.slice none 0 0)).heap[p]? = some (.cells #[.int .i64 f, .int .i64 e, .slice none 0 0] 165 (0, 0)) := by
      have := row_set (i := 2) Hp9.out (.slice none 0 0)
      simpa using this
    have hA9 : ∀ ad, A9 = some ad → w.heap.size ≤ ad.block ∧ ad.block < w9.heap.size := by
      intro ad had
      have := hown9.lt ad.block (by rw [had]; rfl)
      exact this
    have hc10 : Cells (w9.setCell ⟨p, 2, none⟩ (.slice none 0 0)) A9 (all.flatMap extCells) := hc9.setCell (fun ad had => by have := (hA9 ad had).1; simp only; omega) _
    have z10 : w9.heap.size = (w9.setCell ⟨p, 2, none⟩ (.slice none 0 0)).heap.size := by simp [World.setCell]
    rw [z10] at hA9
    generalize w9.setCell ⟨p, 2, none⟩ (.slice none 0 0) = w10 at *
    have HA9 := Lib.hid hA9
    have hpw10 : p < w10.heap.size := lt_of_heap Hp10
    have hsz10 : w.heap.size ≤ w10.heap.size := K10.size
    have Hfits := Lib.hid (give_fits hcan.out h0 H8.out HA8.out g0 (by omega) Hm.out Hall.out)
    have Hpair := Lib.hid (give_pair hcan.out Hm.out Hall.out)
    obtain ⟨B10, HB10⟩ : ∃ B10, Hid (w10.heap.size = B10) := ⟨_, rfl⟩
    have hpB : p < B10 := by rw [← HB10.out]; exact hpw10
    have hwB : w.heap.size ≤ B10 := by rw [← HB10.out]; exact hsz10
    have HC10 := Lib.hid hc10
    have HP10 := Lib.hid Hp10
    have HK10 := Lib.hid K10
    clear hc10 Hp10 K10 hA9 z10 B9 B8 Hp9 Hown8 hown9 hg9 hat9 hc9 Hp8 q2 q2f b2 b2f hne8 hdrop p1 hpw10 hsz10 b0 b1
    go_loopw [10, 11, 107] (fun _ _ t wr => GiveRel w p f e A9 all B10 t wr) (fun _ _ t _ => all.length - (intOf t).toNat)
    case atStart => exact ⟨0, none, 0, Nat.zero_le _, rfl, HC10.out, HP10.out, World.ownsRow_nil _ _ _ _, HK10.out, Nat.le_of_eq HB10.out.symm⟩
    case round =>
      obtain ⟨k, Ao, co, hk, rfl, hca, hp, hown, hkeep, hB⟩ := hrel
      have Hca := Lib.hid hca
      have Hp := Lib.hid hp
      have Hown := Lib.hid hown
      have Hkeep := Lib.hid hkeep
      have hpr : p < wr.heap.size := lt_of_heap hp
      clear hca hp hown hkeep
      by_cases hlt : k < all.length
      · obtain ⟨x, hx⟩ : ∃ x, all[k]? = some x := ⟨_, List.getElem?_eq_getElem hlt⟩
        have htk : joins (all.take (k + 1)) = join1 (joins (all.take k)) x := by rw [List.take_succ_eq_append_getElem hlt, joins_snoc]; congr 1; rw [List.getElem?_eq_getElem hlt] at hx; injection hx
        have hxb := (Hfits.out x (List.mem_of_getElem? hx))
        obtain ⟨b9, o9, hA9, hb9, hcx⟩ := exts_at Hca.out (by omega)
        obtain ⟨x0, x1⟩ := hcx k x hx
        have hb9' := (HA9.out _ hA9)
        simp only at hb9'
        subst hA9
        have Hx := Lib.hid hx
        have Htk := Lib.hid htk
        have hout := joins_fit (lo := f) (hi := e) (all.take k) (fun y hy => Hfits.out y (List.mem_of_mem_take hy)) (Hpair.out.sublist (List.take_sublist _ _))
        have hol : (joins (all.take k)).length ≤ k := by have := joins_len (all.take k); rw [List.length_take] at this; omega
        have Hout := Lib.hid hout
        clear hx htk hcx hout
        obtain ⟨out, Hjo⟩ : ∃ out, Hid (joins (all.take k) = out) := ⟨_, rfl⟩
        rw [Hjo.out] at Htk Hp Hown Hout hol
        obtain ⟨-, -, g2, -, -, g2f⟩ := box3 Hp.out
        obtain ⟨hx1, hx2, -, -, hx5⟩ := hxb
        rcases List.eq_nil_or_concat out with hn | ⟨o, y, hn⟩
        · subst hn
          rw [List.length_nil] at *
          have hd0 : decide ((0 : Int) - 1 ≥ 0) = false := by decide
          have hd1 : decide ((0 : Int) ≤ (0 : Int) - 1) = false := by decide
          have hd2 : decide ((0 : Int) ≤ -1) = false := by decide
          have hj1 : join1 [] x = [x] := rfl
          have Hj1 := Lib.hid hj1
          clear hj1
          have hneo := Lib.hid (show (Value.slice Ao 0 co).ownBlock ≠ some p from fun h => by have := own_ge Hown.out _ h; omega)
          go_wp2
          go_quiet (fail)
          go_wp2
          go_region_law (first | (refine step_append_any _ rfl (.tmp 158) (.tmp 160) _ (by rfl) B10 121 i0 _ 2 16 Tryz.underlying163 hi0 hz0 hz1 hz2 rfl (by omega) _ 0 (([] : List Ext).flatMap extCells) (by rfl) (own_below Hown.out (by repeat (first | exact Below.refl _ _ | refine below_drewN ?_ _ | refine Below.drew ?_ | refine Below.alloc ?_ (by simp <;> omega) _))) (some ⟨wr.heap.size + 1, 0, none⟩) 1 1 [.int .i64 x.1, .int .i64 x.2] (by rfl) rfl (cells_two (by simp [go_sem]) (by simp [go_sem])) (extCells_one x) (by simp only [maxLen]; omega) (by omega) (by simp; omega) ?_; intro v11 w11 hown11 hg11 hat11; have Hp11 := Lib.hid (row_grown (row_below Hp.out (by repeat (first | exact Below.refl _ _ | refine below_drewN ?_ _ | refine Below.drew ?_ | refine Below.alloc ?_ (by simp <;> omega) _))) hg11 hneo.out); have q2 := (box3 Hp11.out).2.2.1; have q2f := (box3 Hp11.out).2.2.2.2.2; have B11 := Lib.hid (keep_grown (S := (Value.slice Ao 0 co).ownBlock.toList) hg11 (fun k hk => .inl (by simp [hk]))); obtain ⟨A11, c11, rfl, -, -, -⟩ := own_slice hown11; have Hown11 := Lib.hid hown11; clear hown11 hg11 hat11))
          all_goals
            go_wp2
            go_roundw
            case rel =>
              have hown11 := Hown11.out
              have K11 : Keep ((Value.slice Ao 0 co).ownBlock.toList) wr w11 := (keep_below (by repeat (first | exact Below.refl _ _ | refine below_drewN ?_ _ | refine Below.drew ?_ | refine Below.alloc ?_ (by simp <;> omega) _)) _).trans B11.out
              have hoq : ∀ i, i ∈ (Value.slice Ao 0 co).ownBlock.toList → B10 ≤ i := fun i hi => own_ge Hown.out i (by simpa using hi)
              have hlo : joins (all.take (k + 1)) = ([] : List Ext) ++ [x] := by rw [Htk.out, Hj1.out]; first | done | rfl
              have hln : 0 + 1 = (([] : List Ext) ++ [x]).length := by simp
              have hcl : ([] : List Ext).flatMap extCells ++ [Value.int .i64 x.1, .int .i64 x.2] = (([] : List Ext) ++ [x]).flatMap extCells := by simp [extCells]
              rw [hln, hcl] at hown11
              refine ⟨k + 1, A11, c11, hlt, by go_num, ?_, ?_, ?_, ?_, ?_⟩
              · refine (Hca.out.kept K11 (fun ad had hm => ?_)).setCell (fun ad had => ?_) _
                · injection had with had
                  subst had
                  have h1 : B10 ≤ b9 := hoq b9 hm
                  have := hb9'.2
                  have := HB10.out
                  omega
                · injection had with had
                  subst had
                  have := hb9'.1
                  simp only
                  omega
              · rw [hlo]
                have := row_set (i := 2) Hp11.out (.slice A11 (0 + 1) c11)
                rw [hln] at this
                simpa using this
              · rw [hlo]
                exact own_kept hown11 ((Keep.refl [p] w11).setCell (p := ⟨p, 2, none⟩) (.inl (by simp)) _) (fun i hi => by have := own_ge hown11 i hi; simp; omega)
              · exact (Hkeep.out.then K11 (fun i hi hm => by have := hoq i hm; omega)).setCell (p := ⟨p, 2, none⟩) (.inl (by simp)) _
              · have := K11.size
                simp [World.setCell]
                omega
            case measure => simp [intOf]; omega

        · rw [List.concat_eq_append] at hn
          subst hn
          rw [List.length_append, List.length_singleton] at g2 hol
          have hy := Hout.out.1.mem (x := y) (by simp)
          obtain ⟨hy1, hy2, -, -, hy5⟩ := hy
          have Hown' := Hown.out
          rw [List.length_append, List.length_singleton] at Hown'
          obtain ⟨go, cur, hAo, hgo, hBgo, hnc, hcm, hcs, hcur, hcy⟩ := own_ext Hown' (by omega)
          subst hAo
          obtain ⟨y0, y1⟩ := hcy o.length y (by omega) (by simp)
          have y1f : wr.frozen? ⟨go, o.length * 2 + 1, none⟩ = false := row_frozen hgo _
          have hgow := lt_of_heap hgo
          have Hgo := Lib.hid hgo
          have Hcs2 := Lib.hid hcs
          have Hcur := Lib.hid hcur
          have s3 : -9223372036854775808 ≤ y.1 + y.2 := by omega
          have s4 : y.1 + y.2 ≤ 9223372036854775807 := by omega
          have s5 : -9223372036854775808 ≤ y.2 + x.2 := by omega
          have s6 : y.2 + x.2 ≤ 9223372036854775807 := by have := Hfits.out x (List.mem_of_getElem? Hx.out); unfold Fits at this; omega
          have d0 : decide ((0 : Int) ≤ (o.length : Int)) = true := decide_eq_true (by omega)
          have d1 : decide ((o.length : Int) ≥ 0) = true := decide_eq_true (by omega)
          have d2 : 0 ≤ (o.length : Int) := by omega
          have d3 : (o.length : Int) < (o.length : Int) + 1 := by omega
          have hp' := Hp.out
          rw [List.length_append, List.length_singleton] at hp'
          have Hcm := Lib.hid hcm
          clear Hown Hp
          have Hown := Lib.hid Hown'
          have Hp := Lib.hid hp'
          clear hgo hcs hcur hcy Hown' hcm hp'
          by_cases heq : y.1 + y.2 = x.1
          · have hq : ((y.1 + y.2 : Int) == x.1) = true := by simp [heq]
            have hj1 : join1 (o ++ [y]) x = o ++ [(y.1, y.2 + x.2)] := by simp [join1, heq]
            have Hj1 := Lib.hid hj1
            clear hj1 heq
            go_wp2
            go_quiet (fail)
            go_wp2
            go_region
            go_wp2
            go_roundw
            case rel =>
              have hlo : joins (all.take (k + 1)) = o ++ [(y.1, y.2 + x.2)] := by rw [Htk.out, Hj1.out]
              have hln : (o ++ [(y.1, y.2 + x.2)]).length = o.length + 1 := by simp
              generalize hW : World.setCell _ ⟨go, o.length * 2 + 1, none⟩ _ = W16
              have hg16 : W16.heap[go]? = some (.cells (cur.setIfInBounds (o.length * 2 + 1) (.int .i64 (y.2 + x.2))) 121 (0, 0)) := by
                rw [← hW]
                exact row_set (row_below Hgo.out (by repeat (first | exact Below.refl _ _ | refine below_drewN ?_ _ | refine Below.drew ?_ | refine Below.alloc ?_ (by simp <;> omega) _))) _
              have K16 : Keep [go] wr W16 := by
                rw [← hW]
                repeat (first | exact Keep.refl _ _ | refine Keep.drewN ?_ _ | refine Keep.drew ?_ | refine Keep.setCell ?_ (.inl (by simp)) _ | refine Keep.alloc ?_ _)
              refine ⟨k + 1, some ⟨go, 0, none⟩, co, hlt, by go_num, ?_, ?_, ?_, ?_, ?_⟩
              · refine Hca.out.kept K16 (fun ad had hm => ?_)
                injection had with had
                subst had
                simp at hm
                have := hb9'.2
                have := HB10.out
                omega
              · rw [hlo, hln]
                exact K16.row Hp.out (by simp; omega)
              · rw [hlo, hln]
                exact own_set2 (y.2 + x.2) hg16 hBgo rfl hnc Hcs2.out Hcm.out Hcur.out
              · exact Hkeep.out.then K16 (fun i hi hm => by simp at hm; omega)
              · have := K16.size
                omega
            case measure => simp [intOf]; omega
          · have hq : ((y.1 + y.2 : Int) == x.1) = false := by simp [heq]
            have hj1 : join1 (o ++ [y]) x = (o ++ [y]) ++ [x] := by simp [join1, heq]
            have Hj1 := Lib.hid hj1
            have hneo := Lib.hid (show (Value.slice (some ⟨go, 0, none⟩) (o.length + 1) co).ownBlock ≠ some p from fun h => by simp [Value.ownBlock] at h; omega)
            clear hj1 heq
            go_wp2
            go_quiet (fail)
            go_wp2
            go_region_law (first | (refine step_append_any _ rfl (.tmp 158) (.tmp 160) _ (by rfl) B10 121 i0 _ 2 16 Tryz.underlying163 hi0 hz0 hz1 hz2 rfl (by omega) _ (o.length + 1) ((o ++ [y]).flatMap extCells) (by rfl) (own_below Hown.out (by repeat (first | exact Below.refl _ _ | refine below_drewN ?_ _ | refine Below.drew ?_ | refine Below.alloc ?_ (by simp <;> omega) _))) (some ⟨wr.heap.size + 1, 0, none⟩) 1 1 [.int .i64 x.1, .int .i64 x.2] (by rfl) rfl (cells_two (by simp [go_sem]) (by simp [go_sem])) (extCells_one x) (by simp only [maxLen]; omega) (by omega) (by simp; omega) ?_; intro v11 w11 hown11 hg11 hat11; have Hp11 := Lib.hid (row_grown (row_below Hp.out (by repeat (first | exact Below.refl _ _ | refine below_drewN ?_ _ | refine Below.drew ?_ | refine Below.alloc ?_ (by simp <;> omega) _))) hg11 hneo.out); have q2 := (box3 Hp11.out).2.2.1; have q2f := (box3 Hp11.out).2.2.2.2.2; have B11 := Lib.hid (keep_grown (S := (Value.slice (some ⟨go, 0, none⟩) (o.length + 1) co).ownBlock.toList) hg11 (fun k hk => .inl (by simp [hk]))); obtain ⟨A11, c11, rfl, -, -, -⟩ := own_slice hown11; have Hown11 := Lib.hid hown11; clear hown11 hg11 hat11))
            all_goals
              go_wp2
              go_roundw
              case rel =>
                have hown11 := Hown11.out
                have K11 : Keep ((Value.slice (some ⟨go, 0, none⟩) (o.length + 1) co).ownBlock.toList) wr w11 := (keep_below (by repeat (first | exact Below.refl _ _ | refine below_drewN ?_ _ | refine Below.drew ?_ | refine Below.alloc ?_ (by simp <;> omega) _)) _).trans B11.out
                have hoq : ∀ i, i ∈ (Value.slice (some ⟨go, 0, none⟩) (o.length + 1) co).ownBlock.toList → B10 ≤ i := fun i hi => own_ge Hown.out i (by simpa using hi)
                have hlo : joins (all.take (k + 1)) = (o ++ [y]) ++ [x] := by rw [Htk.out, Hj1.out]; first | done | rfl
                have hln : (o.length + 1) + 1 = ((o ++ [y]) ++ [x]).length := by simp
                have hcl : (o ++ [y]).flatMap extCells ++ [Value.int .i64 x.1, .int .i64 x.2] = ((o ++ [y]) ++ [x]).flatMap extCells := by simp [extCells]
                rw [hln, hcl] at hown11
                refine ⟨k + 1, A11, c11, hlt, by go_num, ?_, ?_, ?_, ?_, ?_⟩
                · refine (Hca.out.kept K11 (fun ad had hm => ?_)).setCell (fun ad had => ?_) _
                  · injection had with had
                    subst had
                    have h1 : B10 ≤ b9 := hoq b9 hm
                    have := hb9'.2
                    have := HB10.out
                    omega
                  · injection had with had
                    subst had
                    have := hb9'.1
                    simp only
                    omega
                · rw [hlo]
                  have := row_set (i := 2) Hp11.out (.slice A11 ((o.length + 1) + 1) c11)
                  rw [hln] at this
                  simpa using this
                · rw [hlo]
                  exact own_kept hown11 ((Keep.refl [p] w11).setCell (p := ⟨p, 2, none⟩) (.inl (by simp)) _) (fun i hi => by have := own_ge hown11 i hi; simp; omega)
                · exact (Hkeep.out.then K11 (fun i hi hm => by have := hoq i hm; omega)).setCell (p := ⟨p, 2, none⟩) (.inl (by simp)) _
                · have := K11.size
                  simp [World.setCell]
                  omega
              case measure => simp [intOf]; omega

      · obtain rfl : k = all.length := by omega
        go_wp2
        go_ret
        rw [List.take_length] at *
        refine ⟨rfl, ⟨(Value.slice Ao (joins all).length co).ownBlock, ?_, fun i hi => ?_⟩, Hkeep.out⟩
        · rw [Hall.out]
          have hcanon := (joins_fit (lo := f) (hi := e) all Hfits.out Hpair.out).1
          exact ⟨⟨Ao, co, Hp.out, own_mono Hown.out (by omega), rfl⟩, fun h => by have := own_ge Hown.out _ h; omega, hBp, hcanon, f0, hG.out.fe, e1⟩
        · have := own_ge Hown.out _ hi
          omega


end Go.Proofs.YtnimaajnlkbdaaaGreat
