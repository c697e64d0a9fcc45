/- The law GroundFirst's walk. -/
import Derived.Test.YtpkohmbdmbkcbaaGroundTwo
namespace Go.Proofs.Ytpkohmbdmbkcbaa
open Go.RowKit

/-- where the search for the first one that is great enough stands still -/
theorem first_stop (n : Int) (l : List Ext) : ∃ K, K ≤ l.length ∧ (∀ j x, j < K → l[j]? = some x → x.2 < n) ∧ ∀ x, l[K]? = some x → n ≤ x.2 := by
  induction l with
  | nil => exact ⟨0, Nat.le_refl _, by omega, by simp⟩
  | cons a l ih =>
    by_cases h : n ≤ a.2
    · exact ⟨0, Nat.zero_le _, by omega, fun x hx => by simp at hx; subst hx; exact h⟩
    · obtain ⟨K, h1, h2, h3⟩ := ih
      refine ⟨K + 1, by simp; omega, fun j x hj hx => ?_, fun x hx => h3 x (by simpa using hx)⟩
      cases j with
      | zero => simp at hx; subst hx; omega
      | succ j => exact h2 j x (by omega) (by simpa using hx)
theorem first_none {n : Int} {l : List Ext} (h : carveBad n = true ∨ ∀ j x, j < l.length → l[j]? = some x → x.2 < n) : carveF n l = (0, false, l) := by
  unfold carveF
  split
  · rfl
  · rename_i hb
    rcases h with h | h
    · exact absurd h hb
    · cases hc : carveAt n l with
      | none => rfl
      | some k =>
        obtain ⟨x, hx, hk, hp, _⟩ := findIdx_some hc
        have := h k x hk hx
        simp at hp
        omega
theorem first_some {n : Int} {l : List Ext} {K : Nat} {x : Ext} (hb : carveBad n = false) (hx : l[K]? = some x) (hn : n ≤ x.2) (hlow : ∀ j y, j < K → l[j]? = some y → y.2 < n) : carveF n l = (x.1, true, l.take K ++ ((if x.2 = n then [] else [(x.1 + n, x.2 - n)]) ++ l.drop (K + 1))) := by
  have hi : carveAt n l = some K := findIdx_mk hx (by simpa using hn) (fun j y hj hy => by have := hlow j y hj hy; simp; omega)
  unfold carveF
  rw [if_neg (by rw [hb]; simp), hi]
  simp only [hx]
  rw [carveRest_eq n hx]

structure SumIs (a b n : Nat) : Prop where
  eq : a + b = n
def FirstRel (w : World) (B0 p1 : Nat) (f e : Int) (n : Nat) (t : Value) (wr : World) : Prop :=
  ∃ (k : Nat) (lg : List Ext) (q : Option Nat), k ≤ n ∧ k ≤ 50 ∧ t = .int .i64 k ∧ Gr B0 wr p1 f e lg q ∧ Below w.heap.size w wr

set_option maxRecDepth 100000 in
set_option maxHeartbeats 16000000 in
theorem groundFirst_walk (s : Int) (A : Option Addr) (c : Nat) (l : List GOp) (w : World) (hs : (Lit.int .u8 s).wf = true)
    (_ : l.length ≤ c) (_ : c ≤ maxLen) (he : Cells w A (l.flatMap gopCells)) (hq : ∀ e ∈ l, GOpOk e) :
    Calls Try.prog 6 #[.int .u8 s, .slice A l.length c] w fun e w' => e = .returned (.bool true) ∧ Below w.heap.size w w' := by
  obtain ⟨s0, s1⟩ := wf_u8 hs
  have Hq := Lib.hid hq
  have He := Lib.hid he
  clear hs hq he
  obtain ⟨i0, hi0, hz0, hz1, hz2⟩ := info_parts infoExt
  go_enter Try.func6, Try.ntmps6
  go_wp2_with fail
  refine (shown_any _).mono ?_
  rintro r w1 ⟨rfl, hb1⟩
  go_wp2_with fail
  obtain ⟨z, Hz⟩ : ∃ z, Hid (8 * (s % 61) = z) := ⟨_, rfl⟩
  rw [Hz.out]
  have z0 : 0 ≤ z := by rw [← Hz.out]; omega
  have z1 : z ≤ 480 := by rw [← Hz.out]; omega
  have z8 : z % 8 = 0 := by rw [← Hz.out]; omega
  have Hmay := Lib.hid (show newMay 64 z = true by unfold newMay inB; simp only [Bool.and_eq_true, decide_eq_true_eq]; omega)
  clear z8
  refine (new_good 64 z _ Hmay.out).mono ?_
  rintro r w2 ⟨p1, q1, rfl, hG1, hb2⟩
  obtain ⟨e, He1⟩ : ∃ e, Hid (64 + z = e) := ⟨_, rfl⟩
  rw [He1.out] at hG1
  have e1 : e ≤ 544 := by rw [← He1.out]; omega
  have HG1 := Lib.hid hG1
  have HB2 := Lib.hid (below_only hb1 hb2)
  have zz1 := hb1.size
  clear hb1 hb2 hG1 z0 z1
  go_wp2
  go_loopw [8] (fun t wr => FirstRel w w1.heap.size p1 64 e l.length t wr) (fun t _ => l.length - (intOf t).toNat)
  case atStart => exact ⟨0, _, _, Nat.zero_le _, by omega, rfl, HG1.out, HB2.out⟩
  case round =>
    obtain ⟨k, lg, q, hk, hk50, rfl, hG, hB⟩ := hrel
    have HGk := Lib.hid hG
    have HB := Lib.hid hB
    have hwr := hB.size
    have hlg := hG.size
    have hcan := Lib.hid hG.can
    clear hG
    by_cases hgo : k < l.length ∧ k < 50
    · obtain ⟨hlt, hlt50⟩ := hgo
      obtain ⟨bA, off, rfl, hbl, hcl⟩ := gops_at He.out (by omega)
      obtain ⟨x, hx⟩ : ∃ x, l[k]? = some x := ⟨_, List.getElem?_eq_getElem hlt⟩
      obtain ⟨c0, c1, c2⟩ := hcl k x hx
      obtain ⟨⟨o0, o1⟩, ⟨o2, o3⟩, ⟨o4, o5⟩⟩ := Hq.out x (List.mem_of_getElem? hx)
      have cx0 := old_cell hB c0
      have cx1 := old_cell hB c1
      have cx2 := old_cell hB c2
      obtain ⟨xk, xa, xn⟩ := x
      simp only at cx0 cx1 cx2 o0 o1 o2 o3 o4 o5
      have R5 := Lib.hid (row_new wr #[.int .u8 xk, .int .i64 xa, .int .i64 xn] 31)
      have HG5 := Lib.hid (HGk.out.below (show Below wr.heap.size wr (wr.alloc (.cells #[.int .u8 xk, .int .i64 xa, .int .i64 xn] 31)) by go_grown))
      have B5 := Lib.hid (below_only HB.out (show Below wr.heap.size wr (wr.alloc (.cells #[.int .u8 xk, .int .i64 xa, .int .i64 xn] 31)) by go_grown))
      have hlt5 := HGk.out.lt
      have Hlt5 := Lib.hid hlt5
      have hp1 := hlt5.1
      clear hcl hx hB c0 c1 c2 hlt5
      by_cases h2 : xk % 3 = 2
      · have h2' : ((xk % 3 : Int) == 2) = true := by rw [h2]; rfl
        clear h2
        go_wp2_with fail
        refine (give_any _ p1 64 e lg q xa xn _ HG5.out ⟨o2, o3⟩).mono ?_
        rintro r w7 ⟨rfl, ⟨q7, hG, hq7⟩, hk7⟩
        have HG7 := Lib.hid hG
        have B7 := Lib.hid (Keep.under B5.out (keep_more q hk7) B5.out.size (fun i hi => Nat.le_trans zz1 (HG5.out.blocks i hi)))
        clear hG hq7 hk7
        go_wp2
        go_roundw
        case rel => exact ⟨k + 1, _, q7, by omega, by omega, by go_num, HG7.out, B7.out⟩
        case measure => simp [intOf]; omega
      · have h2' : ((xk % 3 : Int) == 2) = false := by rw [beq_eq_false_iff_ne]; exact h2
        clear h2
        go_wp2_with fail
        have z5 : (wr.alloc (.cells #[.int .u8 xk, .int .i64 xa, .int .i64 xn] 31)).heap.size = wr.heap.size + 1 := by simp
        rw [← z5]
        generalize wr.alloc (.cells #[.int .u8 xk, .int .i64 xa, .int .i64 xn] 31) = w5 at *
        have z5' : wr.heap.size < w5.heap.size := by omega
        clear z5
        refine (free_any _ p1 64 e lg q _ (HG5.out.below ((Below.refl _ _).alloc (Nat.le_refl _) _))).mono ?_
        rintro r w6 ⟨v, rfl, A6, c6, rfl, hc6, hcs6, _, hb⟩
        have hA : Below w5.heap.size w5 (w5.alloc (.cells #[] 40)) := (Below.refl _ _).alloc (Nat.le_refl _) _
        have HG6 := Lib.hid ((HG5.out.below hA).below hb)
        have B6 := Lib.hid (below_only (below_only B5.out hA) hb)
        have R6 := Lib.hid (row_below (row_below R5.out hA) hb)
        have Ho6 := Lib.hid (own_below (own_empty (e := 40) (size := 2) (Nat.le_refl w5.heap.size) (row_new w5 #[] 40)) hb)
        have zb6 := hb.size
        have z6 : w5.heap.size ≤ w6.heap.size := by simp at zb6; omega
        have Hc6 := Lib.hid hcs6
        have zw5 := B5.out.size
        have HB56 := hb
        clear hb hcs6 zb6 hA cx0 cx1 cx2
        have hp5 : p1 < w5.heap.size := by omega
        have H56 := Lib.hid (below_only ((Below.refl w5.heap.size w5).alloc (Nat.le_refl _) (.cells #[] 40)) HB56)
        clear HB56
        go_wp2_with (at_builtin; refine wpList_append_any _ rfl (.tmp 60) (.tmp 62) _ (by rfl) w5.heap.size 40 i0 _ 2 16 Try.underlying36 hi0 hz0 hz1 hz2 rfl (by omega) (.slice (some ⟨w5.heap.size, 0, none⟩) 0 0) 0 [] (by rfl) Ho6.out A6 lg.length c6 (lg.flatMap extCells) (by rfl) (exts_len lg) Hc6.out (exts_one lg) (by simp only [maxLen]; omega) (by omega) z6 ?_; intro v7 w7 hown7 hg7 hat7; simp only [Nat.zero_add, List.nil_append] at hown7; obtain ⟨A7, c7, rfl, hc7, hm7, hcs7⟩ := own_slice hown7; have Hown7 := Lib.hid hown7; have H57 := Lib.hid (H56.out.grown hg7 z6 (own_ge Ho6.out)); have R7 := Lib.hid (row_below R5.out H57.out); have x2 := (box3 R7.out).2.2.1; clear hown7 hg7 hat7 hcs7)
        have HG7 := Lib.hid (HG5.out.below H57.out)
        have B7 := Lib.hid (below_only B5.out H57.out)
        have z7 := H57.out.size
        obtain ⟨rc, HR1⟩ : ∃ rc, Hid ((carveF xn lg).1 = rc) := ⟨_, rfl⟩
        obtain ⟨ok, HR3⟩ : ∃ ok, Hid ((carveF xn lg).2.1 = ok) := ⟨_, rfl⟩
        obtain ⟨L, HR2⟩ : ∃ L, Hid ((carveF xn lg).2.2 = L) := ⟨_, rfl⟩
        refine (carve_any _ p1 64 e lg q xn _ HG7.out).mono ?_
        rintro r w8 ⟨rfl, hG, hk8⟩
        rw [HR1.out, HR3.out]
        rw [HR2.out] at hG
        have HG8 := Lib.hid hG
        have B8 := Lib.hid (Keep.under B7.out hk8 B7.out.size (fun i hi => Nat.le_trans zz1 (HG7.out.blocks i hi)))
        have hnot : ∀ i, wr.heap.size ≤ i → i ∉ p1 :: q.toList := by
          intro i hi hm
          rcases List.mem_cons.1 hm with rfl | hm
          · omega
          · exact absurd (Hlt5.out.2 i (by simpa using hm)).1 (by omega)
        have Hown8 := Lib.hid (own_kept Hown7.out hk8 (fun i hi => hnot i (by have := own_ge Hown7.out i hi; omega)))
        have R8 := Lib.hid (hk8.row R7.out (hnot _ (Nat.le_refl _)))
        have z8 := hk8.size
        clear hG hk8 hnot x2
        have x2 := (box3 R8.out).2.2.1
        obtain ⟨K, hK, hlow, hhigh⟩ := first_stop xn lg
        have Hlow := Lib.hid hlow
        have Hhigh := Lib.hid hhigh
        clear hlow hhigh Ho6 Hc6 HG6 B6 R6
        have HL := Lib.hid HG8.out.size
        go_wp2
        go_loopw [13] (fun t wx => ∃ j nq : Nat, j ≤ K ∧ t = .int .i64 j ∧ wx = w8.drewN nq) (fun t _ => K - (intOf t).toNat)
        case atStart => exact ⟨0, 0, Nat.zero_le _, rfl, rfl⟩
        case round =>
          obtain ⟨j, nq, hj, rfl, rfl⟩ := hrel
          by_cases hjK : j < K
          · obtain ⟨bh, oh, rfl, hbh, hch⟩ := exts_at (Cells.of_own Hown8.out) (by omega)
            obtain ⟨y, hy⟩ : ∃ y, lg[j]? = some y := ⟨_, List.getElem?_eq_getElem (by omega)⟩
            obtain ⟨y0, y1⟩ := hch j y hy
            have hyn := Hlow.out j y hjK hy
            have d1 : decide (y.2 < xn) = true := decide_eq_true hyn
            have d3 : j < lg.length := by omega
            have d4 : decide ((j : Int) < (lg.length : Int)) = true := decide_eq_true (by omega)
            clear hy hch hyn
            go_wp2
            go_quiet (fail)
            go_wp2
            go_roundw
            case rel => exact ⟨j + 1, _, hjK, by go_num, rfl⟩
            case measure => simp [intOf]; omega
          · obtain rfl : j = K := by omega
            by_cases hKl : j = lg.length
            · have HKl := Lib.hid hKl
              have d4 : decide ((j : Int) < (lg.length : Int)) = false := decide_eq_false (by omega)
              have d4n : ¬ j < lg.length := by omega
              clear hKl
              by_cases hbad : carveBad xn = true
              · by_cases hx1 : xn < 1
                · have m1 : decide (xn > 0) = false := decide_eq_false (by omega)
                  have m1' : decide (0 < xn) = false := decide_eq_false (by omega)
                  have HF := Lib.hid (first_none (n := xn) (l := lg) (.inl (by unfold carveBad; simp; omega)))
                  obtain rfl : ok = false := by rw [← HR3.out, HF.out]
                  obtain rfl : rc = 0 := by rw [← HR1.out, HF.out]
                  have HLf := Lib.hid HR2.out
                  have HFn := Lib.hid (show L = lg by rw [← HR2.out, HF.out])
                  clear HLf R5 HG5 B5 H56 HG7 B7 Hown7 H57 R7 Hq Hmay HB2 HG1 Hz He1 HGk HB Hlow Hhigh HR1 HR2 HR3 hcan HF HL o0 o1 o2 o3 hbl
                  go_wp2
                  go_quiet (fail)
                  generalize hW : World.drewN (World.drewN w8 _) _ = w9
                  have hG9 : Gr w1.heap.size w9 p1 64 e L q := by rw [← hW]; exact HG8.out.below (below_drewN (below_drewN (Below.refl _ _) _) _)
                  have hB9 : Below w.heap.size w w9 := by rw [← hW]; exact below_drewN (below_drewN B8.out _) _
                  have ho9 : World.ownsRow w9 w5.heap.size 40 2 (.slice A7 lg.length c7) lg.length (lg.flatMap extCells) := by rw [← hW]; exact own_below Hown8.out (below_drewN (below_drewN (Below.refl _ _) _) _)
                  have hr9 : w9.heap[wr.heap.size]? = some (.cells #[.int .u8 xk, .int .i64 xa, .int .i64 xn] 31 (0, 0)) := by rw [← hW]; exact heap_drewN (heap_drewN R8.out)
                  clear hW
                  have HG9 := Lib.hid hG9
                  have B9 := Lib.hid hB9
                  have Hown9 := Lib.hid ho9
                  have R9 := Lib.hid hr9
                  clear hG9 hB9 ho9 hr9 x2
                  have x2 := (box3 R9.out).2.2.1
                  have zop := lt_of_heap R9.out
                  clear HG8 B8 Hown8 R8
                  have z9 := HG9.out.lt.1
                  have hjt : j ≤ lg.length := hK
                  have Hcw := Lib.hid (Cells.of_own Hown9.out)
                  have Htk := Lib.hid (show Cells w9 A7 ((lg.take j).flatMap extCells) by rw [flat_take extCells 2 extCells_length]; exact Cells.take Hcw.out _)
                  go_wp2_with (at_builtin; refine wpList_append_any _ rfl (.tmp 87) (.tmp 90) _ (by rfl) w9.heap.size 40 i0 _ 2 16 Try.underlying36 hi0 hz0 hz1 hz2 rfl (by omega) (.slice (some ⟨w9.heap.size, 0, none⟩) 0 0) 0 [] (by rfl) (own_empty (Nat.le_refl _) (row_new _ _ _)) A7 j c7 ((lg.take j).flatMap extCells) (by rfl) (by rw [exts_len, List.length_take, Nat.min_eq_left hjt]) (Cells.alloc Htk.out _) (exts_one _) (by simp only [maxLen]; omega) (by omega) (by simp) ?_; intro v10 w10 hown10 hg10 hat10; simp only [Nat.zero_add, List.nil_append] at hown10; obtain ⟨A10, c10, rfl, hc10, hm10, hcs10⟩ := own_slice hown10; have Hw10 := Lib.hid hown10; have H910 := Lib.hid (((Below.refl w9.heap.size w9).alloc (Nat.le_refl _) (.cells #[] 40)).grown hg10 (by simp) (fun i hi => by simp [Value.ownBlock] at hi; omega)); have R10 := Lib.hid (row_below R9.out H910.out); have x2' := (box3 R10.out).2.2.1; clear x2; have x2 := x2'; clear x2' hown10 hg10 hat10 hcs10)
                  have HG10 := Lib.hid (HG9.out.below H910.out)
                  have B10 := Lib.hid (below_only B9.out H910.out)
                  have Hown10 := Lib.hid (own_below Hown9.out H910.out)
                  have hz10 := H910.out.size
                  go_quiet (fail)
                  generalize hW : World.drewN w10 _ = w11
                  have hG11 : Gr w1.heap.size w11 p1 64 e L q := by rw [← hW]; exact HG10.out.below (below_drewN (Below.refl _ _) _)
                  have hB11 : Below w.heap.size w w11 := by rw [← hW]; exact below_drewN B10.out _
                  have ho11 : World.ownsRow w11 w5.heap.size 40 2 (.slice A7 lg.length c7) lg.length (lg.flatMap extCells) := by rw [← hW]; exact own_below Hown10.out (below_drewN (Below.refl _ _) _)
                  have hr11 : w11.heap[wr.heap.size]? = some (.cells #[.int .u8 xk, .int .i64 xa, .int .i64 xn] 31 (0, 0)) := by rw [← hW]; exact heap_drewN R10.out
                  have hw11 : World.ownsRow w11 w9.heap.size 40 2 (.slice A10 j c10) j ((lg.take j).flatMap extCells) := by rw [← hW]; exact own_below Hw10.out (below_drewN (Below.refl _ _) _)
                  have hz11 : w9.heap.size ≤ w11.heap.size := by rw [← hW]; exact by simpa using hz10
                  have hh11 : Below w9.heap.size w9 w11 := by rw [← hW]; exact below_drewN H910.out _
                  clear hW
                  have Hw11 := Lib.hid hw11
                  have H911 := Lib.hid hh11
                  clear hw11 hh11 hz10 HG10 B10 Hown10 R10 H910 Hw10
                  have HG11 := Lib.hid hG11
                  have B11 := Lib.hid hB11
                  have Hown11 := Lib.hid ho11
                  have R11 := Lib.hid hr11
                  clear hG11 hB11 ho11 hr11 x2
                  have x2 := (box3 R11.out).2.2.1
                  have z11 := HG11.out.lt.1
                  have z11' := lt_of_heap R11.out
                  have hz9 := H911.out.size
                  obtain ⟨X, hX⟩ : ∃ X, (if c7 = j then A7 else Option.map (fun x : Addr => x.add ((j) * 2)) A7) = X := ⟨_, rfl⟩
                  have c2 : j ≤ c7 := by omega
                  have c1 : (j : Int) ≤ (c7 : Int) := by omega
                  have Hnil := Lib.hid (show lg.drop (j) = [] from List.drop_eq_nil_of_le (by have := HKl.out; omega))
                  obtain ⟨N, HN13⟩ : ∃ N, SumIs j (lg.length - j) N := ⟨_, ⟨rfl⟩⟩
                  go_wp2_with (at_builtin; refine wpList_append_any _ rfl (.tmp 164) (.tmp 167) _ (by rfl) w9.heap.size 40 i0 _ 2 16 Try.underlying36 hi0 hz0 hz1 hz2 rfl (by omega) (.slice A10 j c10) j ((lg.take j).flatMap extCells) (by rfl) (own_below Hw11.out (by repeat (first | exact Below.refl _ _ | refine below_drewN ?_ _ | refine Below.drew ?_))) _ (lg.length - j) _ ((lg.drop (j)).flatMap extCells) (by rfl) (by rw [exts_len, List.length_drop]) (by rw [Hnil.out]; exact Cells.nil) (exts_one _) (by simp only [maxLen]; omega) (by omega) (by first | omega | (simp; omega)) ?_; intro v13 w13 hown13 hg13 hat13; have hown13 : World.ownsRow w13 w9.heap.size 40 2 v13 N ((lg.take j).flatMap extCells ++ (lg.drop (j)).flatMap extCells) := (by have h13 := HN13.eq; subst h13; exact hown13); obtain ⟨A13, c13, rfl, hc13, hm13, hcs13⟩ := own_slice hown13; have H1113 := Lib.hid (show Below w9.heap.size w11 w13 from Below.grown (by repeat (first | exact Below.refl _ _ | refine below_drewN ?_ _ | refine Below.drew ?_)) hg13 (by first | omega | (simp; omega)) (own_ge Hw11.out)); have Hcs13 := Lib.hid hcs13; clear hown13 hg13 hat13 hcs13)
                  have H913 := Lib.hid (H911.out.trans H1113.out)
                  have HG13 := Lib.hid (HG9.out.below H913.out)
                  have B13 := Lib.hid (below_only B9.out H913.out)
                  have hLl := HG13.out.size
                  refine (free_any _ p1 64 e L q _ HG13.out).mono ?_
                  rintro r w14 ⟨v, rfl, A14, c14, rfl, hc14, hcs14, _, hb⟩
                  have HG14 := Lib.hid (HG13.out.below hb)
                  have B14 := Lib.hid (below_only B13.out hb)
                  obtain ⟨Wl, hWl⟩ : ∃ Wl : List Ext, lg.take j ++ lg.drop (j) = Wl := ⟨_, rfl⟩
                  have hwant : Exts w14 A13 Wl := by
                    have := Cells.below Hcs13.out hb
                    rw [← hWl]
                    show Cells w14 A13 ((lg.take j ++ lg.drop (j)).flatMap extCells)
                    rw [List.flatMap_append]
                    exact this
                  have hlen : N = Wl.length := by rw [← HN13.eq, ← hWl]; simp; omega
                  have hs : decide (L = Wl) = true := decide_eq_true (by rw [HFn.out, ← hWl]; first | done | simp)
                  have hL2 : Wl.length ≤ 9223372036854775807 := by rw [← hlen, ← HN13.eq]; omega
                  subst hlen
                  have Hs := Lib.hid hs
                  have Hc14 := Lib.hid hcs14
                  have Hwant := Lib.hid hwant
                  clear hb hcs14 hwant hs hWl HN13
                  go_wp2_with fail
                  refine (same_any A14 A13 c14 c13 L Wl _ (by omega) hL2 Hc14.out Hwant.out).mono ?_
                  rintro r w15 ⟨rfl, hb⟩
                  rw [Hs.out]
                  have HG15 := Lib.hid (HG14.out.below hb)
                  have B15 := Lib.hid (below_only B14.out hb)
                  clear hb
                  go_wp2
                  go_roundw
                  case rel => exact ⟨k + 1, L, q, by omega, by omega, by go_num, HG15.out, B15.out⟩
                  case measure => simp [intOf]; omega

                · have hx8 : ¬ xn % 8 = 0 := fun h8 => by rw [carveBad_no.2 ⟨by omega, h8⟩] at hbad; cases hbad
                  have m1 : decide (xn > 0) = true := decide_eq_true (by omega)
                  have m1' : decide (0 < xn) = true := decide_eq_true (by omega)
                  have m2 : ((xn.tmod 8 : Int) == 0) = false := by rw [beq_eq_false_iff_ne]; rw [Ne, tmod8]; exact hx8
                  have m2' : ((xn % 8 : Int) == 0) = false := by rw [beq_eq_false_iff_ne]; exact hx8
                  have HF := Lib.hid (first_none (n := xn) (l := lg) (.inl hbad))
                  clear hx8
                  obtain rfl : ok = false := by rw [← HR3.out, HF.out]
                  obtain rfl : rc = 0 := by rw [← HR1.out, HF.out]
                  have HLf := Lib.hid HR2.out
                  have HFn := Lib.hid (show L = lg by rw [← HR2.out, HF.out])
                  clear HLf R5 HG5 B5 H56 HG7 B7 Hown7 H57 R7 Hq Hmay HB2 HG1 Hz He1 HGk HB Hlow Hhigh HR1 HR2 HR3 hcan HF HL o0 o1 o2 o3 hbl
                  go_wp2
                  go_quiet (fail)
                  generalize hW : World.drewN (World.drewN w8 _) _ = w9
                  have hG9 : Gr w1.heap.size w9 p1 64 e L q := by rw [← hW]; exact HG8.out.below (below_drewN (below_drewN (Below.refl _ _) _) _)
                  have hB9 : Below w.heap.size w w9 := by rw [← hW]; exact below_drewN (below_drewN B8.out _) _
                  have ho9 : World.ownsRow w9 w5.heap.size 40 2 (.slice A7 lg.length c7) lg.length (lg.flatMap extCells) := by rw [← hW]; exact own_below Hown8.out (below_drewN (below_drewN (Below.refl _ _) _) _)
                  have hr9 : w9.heap[wr.heap.size]? = some (.cells #[.int .u8 xk, .int .i64 xa, .int .i64 xn] 31 (0, 0)) := by rw [← hW]; exact heap_drewN (heap_drewN R8.out)
                  clear hW
                  have HG9 := Lib.hid hG9
                  have B9 := Lib.hid hB9
                  have Hown9 := Lib.hid ho9
                  have R9 := Lib.hid hr9
                  clear hG9 hB9 ho9 hr9 x2
                  have x2 := (box3 R9.out).2.2.1
                  have zop := lt_of_heap R9.out
                  clear HG8 B8 Hown8 R8
                  have z9 := HG9.out.lt.1
                  have hjt : j ≤ lg.length := hK
                  have Hcw := Lib.hid (Cells.of_own Hown9.out)
                  have Htk := Lib.hid (show Cells w9 A7 ((lg.take j).flatMap extCells) by rw [flat_take extCells 2 extCells_length]; exact Cells.take Hcw.out _)
                  go_wp2_with (at_builtin; refine wpList_append_any _ rfl (.tmp 87) (.tmp 90) _ (by rfl) w9.heap.size 40 i0 _ 2 16 Try.underlying36 hi0 hz0 hz1 hz2 rfl (by omega) (.slice (some ⟨w9.heap.size, 0, none⟩) 0 0) 0 [] (by rfl) (own_empty (Nat.le_refl _) (row_new _ _ _)) A7 j c7 ((lg.take j).flatMap extCells) (by rfl) (by rw [exts_len, List.length_take, Nat.min_eq_left hjt]) (Cells.alloc Htk.out _) (exts_one _) (by simp only [maxLen]; omega) (by omega) (by simp) ?_; intro v10 w10 hown10 hg10 hat10; simp only [Nat.zero_add, List.nil_append] at hown10; obtain ⟨A10, c10, rfl, hc10, hm10, hcs10⟩ := own_slice hown10; have Hw10 := Lib.hid hown10; have H910 := Lib.hid (((Below.refl w9.heap.size w9).alloc (Nat.le_refl _) (.cells #[] 40)).grown hg10 (by simp) (fun i hi => by simp [Value.ownBlock] at hi; omega)); have R10 := Lib.hid (row_below R9.out H910.out); have x2' := (box3 R10.out).2.2.1; clear x2; have x2 := x2'; clear x2' hown10 hg10 hat10 hcs10)
                  have HG10 := Lib.hid (HG9.out.below H910.out)
                  have B10 := Lib.hid (below_only B9.out H910.out)
                  have Hown10 := Lib.hid (own_below Hown9.out H910.out)
                  have hz10 := H910.out.size
                  go_quiet (fail)
                  generalize hW : World.drewN w10 _ = w11
                  have hG11 : Gr w1.heap.size w11 p1 64 e L q := by rw [← hW]; exact HG10.out.below (below_drewN (Below.refl _ _) _)
                  have hB11 : Below w.heap.size w w11 := by rw [← hW]; exact below_drewN B10.out _
                  have ho11 : World.ownsRow w11 w5.heap.size 40 2 (.slice A7 lg.length c7) lg.length (lg.flatMap extCells) := by rw [← hW]; exact own_below Hown10.out (below_drewN (Below.refl _ _) _)
                  have hr11 : w11.heap[wr.heap.size]? = some (.cells #[.int .u8 xk, .int .i64 xa, .int .i64 xn] 31 (0, 0)) := by rw [← hW]; exact heap_drewN R10.out
                  have hw11 : World.ownsRow w11 w9.heap.size 40 2 (.slice A10 j c10) j ((lg.take j).flatMap extCells) := by rw [← hW]; exact own_below Hw10.out (below_drewN (Below.refl _ _) _)
                  have hz11 : w9.heap.size ≤ w11.heap.size := by rw [← hW]; exact by simpa using hz10
                  have hh11 : Below w9.heap.size w9 w11 := by rw [← hW]; exact below_drewN H910.out _
                  clear hW
                  have Hw11 := Lib.hid hw11
                  have H911 := Lib.hid hh11
                  clear hw11 hh11 hz10 HG10 B10 Hown10 R10 H910 Hw10
                  have HG11 := Lib.hid hG11
                  have B11 := Lib.hid hB11
                  have Hown11 := Lib.hid ho11
                  have R11 := Lib.hid hr11
                  clear hG11 hB11 ho11 hr11 x2
                  have x2 := (box3 R11.out).2.2.1
                  have z11 := HG11.out.lt.1
                  have z11' := lt_of_heap R11.out
                  have hz9 := H911.out.size
                  obtain ⟨X, hX⟩ : ∃ X, (if c7 = j then A7 else Option.map (fun x : Addr => x.add ((j) * 2)) A7) = X := ⟨_, rfl⟩
                  have c2 : j ≤ c7 := by omega
                  have c1 : (j : Int) ≤ (c7 : Int) := by omega
                  have Hnil := Lib.hid (show lg.drop (j) = [] from List.drop_eq_nil_of_le (by have := HKl.out; omega))
                  obtain ⟨N, HN13⟩ : ∃ N, SumIs j (lg.length - j) N := ⟨_, ⟨rfl⟩⟩
                  go_wp2_with (at_builtin; refine wpList_append_any _ rfl (.tmp 164) (.tmp 167) _ (by rfl) w9.heap.size 40 i0 _ 2 16 Try.underlying36 hi0 hz0 hz1 hz2 rfl (by omega) (.slice A10 j c10) j ((lg.take j).flatMap extCells) (by rfl) (own_below Hw11.out (by repeat (first | exact Below.refl _ _ | refine below_drewN ?_ _ | refine Below.drew ?_))) _ (lg.length - j) _ ((lg.drop (j)).flatMap extCells) (by rfl) (by rw [exts_len, List.length_drop]) (by rw [Hnil.out]; exact Cells.nil) (exts_one _) (by simp only [maxLen]; omega) (by omega) (by first | omega | (simp; omega)) ?_; intro v13 w13 hown13 hg13 hat13; have hown13 : World.ownsRow w13 w9.heap.size 40 2 v13 N ((lg.take j).flatMap extCells ++ (lg.drop (j)).flatMap extCells) := (by have h13 := HN13.eq; subst h13; exact hown13); obtain ⟨A13, c13, rfl, hc13, hm13, hcs13⟩ := own_slice hown13; have H1113 := Lib.hid (show Below w9.heap.size w11 w13 from Below.grown (by repeat (first | exact Below.refl _ _ | refine below_drewN ?_ _ | refine Below.drew ?_)) hg13 (by first | omega | (simp; omega)) (own_ge Hw11.out)); have Hcs13 := Lib.hid hcs13; clear hown13 hg13 hat13 hcs13)
                  have H913 := Lib.hid (H911.out.trans H1113.out)
                  have HG13 := Lib.hid (HG9.out.below H913.out)
                  have B13 := Lib.hid (below_only B9.out H913.out)
                  have hLl := HG13.out.size
                  refine (free_any _ p1 64 e L q _ HG13.out).mono ?_
                  rintro r w14 ⟨v, rfl, A14, c14, rfl, hc14, hcs14, _, hb⟩
                  have HG14 := Lib.hid (HG13.out.below hb)
                  have B14 := Lib.hid (below_only B13.out hb)
                  obtain ⟨Wl, hWl⟩ : ∃ Wl : List Ext, lg.take j ++ lg.drop (j) = Wl := ⟨_, rfl⟩
                  have hwant : Exts w14 A13 Wl := by
                    have := Cells.below Hcs13.out hb
                    rw [← hWl]
                    show Cells w14 A13 ((lg.take j ++ lg.drop (j)).flatMap extCells)
                    rw [List.flatMap_append]
                    exact this
                  have hlen : N = Wl.length := by rw [← HN13.eq, ← hWl]; simp; omega
                  have hs : decide (L = Wl) = true := decide_eq_true (by rw [HFn.out, ← hWl]; first | done | simp)
                  have hL2 : Wl.length ≤ 9223372036854775807 := by rw [← hlen, ← HN13.eq]; omega
                  subst hlen
                  have Hs := Lib.hid hs
                  have Hc14 := Lib.hid hcs14
                  have Hwant := Lib.hid hwant
                  clear hb hcs14 hwant hs hWl HN13
                  go_wp2_with fail
                  refine (same_any A14 A13 c14 c13 L Wl _ (by omega) hL2 Hc14.out Hwant.out).mono ?_
                  rintro r w15 ⟨rfl, hb⟩
                  rw [Hs.out]
                  have HG15 := Lib.hid (HG14.out.below hb)
                  have B15 := Lib.hid (below_only B14.out hb)
                  clear hb
                  go_wp2
                  go_roundw
                  case rel => exact ⟨k + 1, L, q, by omega, by omega, by go_num, HG15.out, B15.out⟩
                  case measure => simp [intOf]; omega

              · have hb : carveBad xn = false := by simpa using hbad
                obtain ⟨n1, n8⟩ := carveBad_no.1 hb
                have m1 : decide (xn > 0) = true := decide_eq_true (by omega)
                have m1' : decide (0 < xn) = true := decide_eq_true (by omega)
                have m2 : ((xn.tmod 8 : Int) == 0) = true := by rw [(tmod8 xn).2 n8]; rfl
                have m2' : ((xn % 8 : Int) == 0) = true := by rw [n8]; rfl
                have N8 := Lib.hid n8
                clear n8
                have HF := Lib.hid (first_none (n := xn) (l := lg) (.inr (fun i y hi hy => Hlow.out i y (by have := HKl.out; omega) hy)))
                obtain rfl : ok = false := by rw [← HR3.out, HF.out]
                obtain rfl : rc = 0 := by rw [← HR1.out, HF.out]
                clear hb hbad
                have HLf := Lib.hid HR2.out
                have HFn := Lib.hid (show L = lg by rw [← HR2.out, HF.out])
                clear HLf R5 HG5 B5 H56 HG7 B7 Hown7 H57 R7 Hq Hmay HB2 HG1 Hz He1 HGk HB Hlow Hhigh HR1 HR2 HR3 hcan HF HL o0 o1 o2 o3 hbl
                go_wp2
                go_quiet (fail)
                generalize hW : World.drewN (World.drewN w8 _) _ = w9
                have hG9 : Gr w1.heap.size w9 p1 64 e L q := by rw [← hW]; exact HG8.out.below (below_drewN (below_drewN (Below.refl _ _) _) _)
                have hB9 : Below w.heap.size w w9 := by rw [← hW]; exact below_drewN (below_drewN B8.out _) _
                have ho9 : World.ownsRow w9 w5.heap.size 40 2 (.slice A7 lg.length c7) lg.length (lg.flatMap extCells) := by rw [← hW]; exact own_below Hown8.out (below_drewN (below_drewN (Below.refl _ _) _) _)
                have hr9 : w9.heap[wr.heap.size]? = some (.cells #[.int .u8 xk, .int .i64 xa, .int .i64 xn] 31 (0, 0)) := by rw [← hW]; exact heap_drewN (heap_drewN R8.out)
                clear hW
                have HG9 := Lib.hid hG9
                have B9 := Lib.hid hB9
                have Hown9 := Lib.hid ho9
                have R9 := Lib.hid hr9
                clear hG9 hB9 ho9 hr9 x2
                have x2 := (box3 R9.out).2.2.1
                have zop := lt_of_heap R9.out
                clear HG8 B8 Hown8 R8
                have z9 := HG9.out.lt.1
                have hjt : j ≤ lg.length := hK
                have Hcw := Lib.hid (Cells.of_own Hown9.out)
                have Htk := Lib.hid (show Cells w9 A7 ((lg.take j).flatMap extCells) by rw [flat_take extCells 2 extCells_length]; exact Cells.take Hcw.out _)
                go_wp2_with (at_builtin; refine wpList_append_any _ rfl (.tmp 87) (.tmp 90) _ (by rfl) w9.heap.size 40 i0 _ 2 16 Try.underlying36 hi0 hz0 hz1 hz2 rfl (by omega) (.slice (some ⟨w9.heap.size, 0, none⟩) 0 0) 0 [] (by rfl) (own_empty (Nat.le_refl _) (row_new _ _ _)) A7 j c7 ((lg.take j).flatMap extCells) (by rfl) (by rw [exts_len, List.length_take, Nat.min_eq_left hjt]) (Cells.alloc Htk.out _) (exts_one _) (by simp only [maxLen]; omega) (by omega) (by simp) ?_; intro v10 w10 hown10 hg10 hat10; simp only [Nat.zero_add, List.nil_append] at hown10; obtain ⟨A10, c10, rfl, hc10, hm10, hcs10⟩ := own_slice hown10; have Hw10 := Lib.hid hown10; have H910 := Lib.hid (((Below.refl w9.heap.size w9).alloc (Nat.le_refl _) (.cells #[] 40)).grown hg10 (by simp) (fun i hi => by simp [Value.ownBlock] at hi; omega)); have R10 := Lib.hid (row_below R9.out H910.out); have x2' := (box3 R10.out).2.2.1; clear x2; have x2 := x2'; clear x2' hown10 hg10 hat10 hcs10)
                have HG10 := Lib.hid (HG9.out.below H910.out)
                have B10 := Lib.hid (below_only B9.out H910.out)
                have Hown10 := Lib.hid (own_below Hown9.out H910.out)
                have hz10 := H910.out.size
                go_quiet (fail)
                generalize hW : World.drewN w10 _ = w11
                have hG11 : Gr w1.heap.size w11 p1 64 e L q := by rw [← hW]; exact HG10.out.below (below_drewN (Below.refl _ _) _)
                have hB11 : Below w.heap.size w w11 := by rw [← hW]; exact below_drewN B10.out _
                have ho11 : World.ownsRow w11 w5.heap.size 40 2 (.slice A7 lg.length c7) lg.length (lg.flatMap extCells) := by rw [← hW]; exact own_below Hown10.out (below_drewN (Below.refl _ _) _)
                have hr11 : w11.heap[wr.heap.size]? = some (.cells #[.int .u8 xk, .int .i64 xa, .int .i64 xn] 31 (0, 0)) := by rw [← hW]; exact heap_drewN R10.out
                have hw11 : World.ownsRow w11 w9.heap.size 40 2 (.slice A10 j c10) j ((lg.take j).flatMap extCells) := by rw [← hW]; exact own_below Hw10.out (below_drewN (Below.refl _ _) _)
                have hz11 : w9.heap.size ≤ w11.heap.size := by rw [← hW]; exact by simpa using hz10
                have hh11 : Below w9.heap.size w9 w11 := by rw [← hW]; exact below_drewN H910.out _
                clear hW
                have Hw11 := Lib.hid hw11
                have H911 := Lib.hid hh11
                clear hw11 hh11 hz10 HG10 B10 Hown10 R10 H910 Hw10
                have HG11 := Lib.hid hG11
                have B11 := Lib.hid hB11
                have Hown11 := Lib.hid ho11
                have R11 := Lib.hid hr11
                clear hG11 hB11 ho11 hr11 x2
                have x2 := (box3 R11.out).2.2.1
                have z11 := HG11.out.lt.1
                have z11' := lt_of_heap R11.out
                have hz9 := H911.out.size
                obtain ⟨X, hX⟩ : ∃ X, (if c7 = j then A7 else Option.map (fun x : Addr => x.add ((j) * 2)) A7) = X := ⟨_, rfl⟩
                have c2 : j ≤ c7 := by omega
                have c1 : (j : Int) ≤ (c7 : Int) := by omega
                have Hnil := Lib.hid (show lg.drop (j) = [] from List.drop_eq_nil_of_le (by have := HKl.out; omega))
                obtain ⟨N, HN13⟩ : ∃ N, SumIs j (lg.length - j) N := ⟨_, ⟨rfl⟩⟩
                go_wp2_with (at_builtin; refine wpList_append_any _ rfl (.tmp 164) (.tmp 167) _ (by rfl) w9.heap.size 40 i0 _ 2 16 Try.underlying36 hi0 hz0 hz1 hz2 rfl (by omega) (.slice A10 j c10) j ((lg.take j).flatMap extCells) (by rfl) (own_below Hw11.out (by repeat (first | exact Below.refl _ _ | refine below_drewN ?_ _ | refine Below.drew ?_))) _ (lg.length - j) _ ((lg.drop (j)).flatMap extCells) (by rfl) (by rw [exts_len, List.length_drop]) (by rw [Hnil.out]; exact Cells.nil) (exts_one _) (by simp only [maxLen]; omega) (by omega) (by first | omega | (simp; omega)) ?_; intro v13 w13 hown13 hg13 hat13; have hown13 : World.ownsRow w13 w9.heap.size 40 2 v13 N ((lg.take j).flatMap extCells ++ (lg.drop (j)).flatMap extCells) := (by have h13 := HN13.eq; subst h13; exact hown13); obtain ⟨A13, c13, rfl, hc13, hm13, hcs13⟩ := own_slice hown13; have H1113 := Lib.hid (show Below w9.heap.size w11 w13 from Below.grown (by repeat (first | exact Below.refl _ _ | refine below_drewN ?_ _ | refine Below.drew ?_)) hg13 (by first | omega | (simp; omega)) (own_ge Hw11.out)); have Hcs13 := Lib.hid hcs13; clear hown13 hg13 hat13 hcs13)
                have H913 := Lib.hid (H911.out.trans H1113.out)
                have HG13 := Lib.hid (HG9.out.below H913.out)
                have B13 := Lib.hid (below_only B9.out H913.out)
                have hLl := HG13.out.size
                refine (free_any _ p1 64 e L q _ HG13.out).mono ?_
                rintro r w14 ⟨v, rfl, A14, c14, rfl, hc14, hcs14, _, hb⟩
                have HG14 := Lib.hid (HG13.out.below hb)
                have B14 := Lib.hid (below_only B13.out hb)
                obtain ⟨Wl, hWl⟩ : ∃ Wl : List Ext, lg.take j ++ lg.drop (j) = Wl := ⟨_, rfl⟩
                have hwant : Exts w14 A13 Wl := by
                  have := Cells.below Hcs13.out hb
                  rw [← hWl]
                  show Cells w14 A13 ((lg.take j ++ lg.drop (j)).flatMap extCells)
                  rw [List.flatMap_append]
                  exact this
                have hlen : N = Wl.length := by rw [← HN13.eq, ← hWl]; simp; omega
                have hs : decide (L = Wl) = true := decide_eq_true (by rw [HFn.out, ← hWl]; first | done | simp)
                have hL2 : Wl.length ≤ 9223372036854775807 := by rw [← hlen, ← HN13.eq]; omega
                subst hlen
                have Hs := Lib.hid hs
                have Hc14 := Lib.hid hcs14
                have Hwant := Lib.hid hwant
                clear hb hcs14 hwant hs hWl HN13
                go_wp2_with fail
                refine (same_any A14 A13 c14 c13 L Wl _ (by omega) hL2 Hc14.out Hwant.out).mono ?_
                rintro r w15 ⟨rfl, hb⟩
                rw [Hs.out]
                have HG15 := Lib.hid (HG14.out.below hb)
                have B15 := Lib.hid (below_only B14.out hb)
                clear hb
                go_wp2
                go_roundw
                case rel => exact ⟨k + 1, L, q, by omega, by omega, by go_num, HG15.out, B15.out⟩
                case measure => simp [intOf]; omega

            · have hjl : j < lg.length := by omega
              have d4 : decide ((j : Int) < (lg.length : Int)) = true := decide_eq_true (by omega)
              obtain ⟨x, hx⟩ : ∃ x, lg[j]? = some x := ⟨_, List.getElem?_eq_getElem hjl⟩
              have hxn := Hhigh.out x hx
              obtain ⟨bh, oh, hA7, hbh, hch⟩ := exts_at (Cells.of_own Hown8.out) (by omega)
              subst hA7
              obtain ⟨x0, x1⟩ := hch j x hx
              have d1 : decide (x.2 < xn) = false := decide_eq_false (by omega)
              have Hx := Lib.hid hx
              obtain ⟨xm1, xm2, -, -, xm5⟩ := hcan.out.mem (List.mem_of_getElem? hx)
              clear hx hch
              by_cases hbad : carveBad xn = true
              · by_cases hx1 : xn < 1
                · have m1 : decide (xn > 0) = false := decide_eq_false (by omega)
                  have m1' : decide (0 < xn) = false := decide_eq_false (by omega)
                  have HF := Lib.hid (first_none (n := xn) (l := lg) (.inl (by unfold carveBad; simp; omega)))
                  obtain rfl : ok = false := by rw [← HR3.out, HF.out]
                  obtain rfl : rc = 0 := by rw [← HR1.out, HF.out]
                  have HLf := Lib.hid HR2.out
                  have HFn := Lib.hid (show L = lg by rw [← HR2.out, HF.out])
                  clear HLf R5 HG5 B5 H56 HG7 B7 Hown7 H57 R7 Hq Hmay HB2 HG1 Hz He1 HGk HB Hlow Hhigh HR1 HR2 HR3 hcan HF HL o0 o1 o2 o3 hbl
                  go_wp2
                  go_quiet (fail)
                  generalize hW : World.drewN (World.drewN w8 _) _ = w9
                  have hG9 : Gr w1.heap.size w9 p1 64 e L q := by rw [← hW]; exact HG8.out.below (below_drewN (below_drewN (Below.refl _ _) _) _)
                  have hB9 : Below w.heap.size w w9 := by rw [← hW]; exact below_drewN (below_drewN B8.out _) _
                  have ho9 : World.ownsRow w9 w5.heap.size 40 2 (.slice (some ⟨bh, oh, none⟩) lg.length c7) lg.length (lg.flatMap extCells) := by rw [← hW]; exact own_below Hown8.out (below_drewN (below_drewN (Below.refl _ _) _) _)
                  have hr9 : w9.heap[wr.heap.size]? = some (.cells #[.int .u8 xk, .int .i64 xa, .int .i64 xn] 31 (0, 0)) := by rw [← hW]; exact heap_drewN (heap_drewN R8.out)
                  clear hW
                  have HG9 := Lib.hid hG9
                  have B9 := Lib.hid hB9
                  have Hown9 := Lib.hid ho9
                  have R9 := Lib.hid hr9
                  clear hG9 hB9 ho9 hr9 x2 x0 x1
                  have x2 := (box3 R9.out).2.2.1
                  have zop := lt_of_heap R9.out
                  clear HG8 B8 Hown8 R8
                  have z9 := HG9.out.lt.1
                  have hjt : j ≤ lg.length := hK
                  obtain ⟨bw, ow, hAw, hbw, hcw⟩ := exts_at (Cells.of_own Hown9.out) (by omega)
                  injection hAw with hAw
                  injection hAw with hAw1 hAw2
                  subst hAw1 hAw2
                  obtain ⟨x0, x1⟩ := hcw j x Hx.out
                  have Hcw := Lib.hid (Cells.of_own Hown9.out)
                  clear hcw
                  have Htk := Lib.hid (show Cells w9 (some ⟨bh, oh, none⟩) ((lg.take j).flatMap extCells) by rw [flat_take extCells 2 extCells_length]; exact Cells.take Hcw.out _)
                  go_wp2_with (at_builtin; refine wpList_append_any _ rfl (.tmp 87) (.tmp 90) _ (by rfl) w9.heap.size 40 i0 _ 2 16 Try.underlying36 hi0 hz0 hz1 hz2 rfl (by omega) (.slice (some ⟨w9.heap.size, 0, none⟩) 0 0) 0 [] (by rfl) (own_empty (Nat.le_refl _) (row_new _ _ _)) (some ⟨bh, oh, none⟩) j c7 ((lg.take j).flatMap extCells) (by rfl) (by rw [exts_len, List.length_take, Nat.min_eq_left hjt]) (Cells.alloc Htk.out _) (exts_one _) (by simp only [maxLen]; omega) (by omega) (by simp) ?_; intro v10 w10 hown10 hg10 hat10; simp only [Nat.zero_add, List.nil_append] at hown10; obtain ⟨A10, c10, rfl, hc10, hm10, hcs10⟩ := own_slice hown10; have Hw10 := Lib.hid hown10; have H910 := Lib.hid (((Below.refl w9.heap.size w9).alloc (Nat.le_refl _) (.cells #[] 40)).grown hg10 (by simp) (fun i hi => by simp [Value.ownBlock] at hi; omega)); have R10 := Lib.hid (row_below R9.out H910.out); have x2' := (box3 R10.out).2.2.1; clear x2; have x2 := x2'; clear x2' hown10 hg10 hat10 hcs10; have x0' := old_cell H910.out x0; have x1' := old_cell H910.out x1; clear x0 x1; have x0 := x0'; have x1 := x1'; clear x0' x1')
                  have HG10 := Lib.hid (HG9.out.below H910.out)
                  have B10 := Lib.hid (below_only B9.out H910.out)
                  have Hown10 := Lib.hid (own_below Hown9.out H910.out)
                  have hz10 := H910.out.size
                  go_quiet (fail)
                  generalize hW : World.drewN w10 _ = w11
                  have hG11 : Gr w1.heap.size w11 p1 64 e L q := by rw [← hW]; exact HG10.out.below (below_drewN (Below.refl _ _) _)
                  have hB11 : Below w.heap.size w w11 := by rw [← hW]; exact below_drewN B10.out _
                  have ho11 : World.ownsRow w11 w5.heap.size 40 2 (.slice (some ⟨bh, oh, none⟩) lg.length c7) lg.length (lg.flatMap extCells) := by rw [← hW]; exact own_below Hown10.out (below_drewN (Below.refl _ _) _)
                  have hr11 : w11.heap[wr.heap.size]? = some (.cells #[.int .u8 xk, .int .i64 xa, .int .i64 xn] 31 (0, 0)) := by rw [← hW]; exact heap_drewN R10.out
                  have hw11 : World.ownsRow w11 w9.heap.size 40 2 (.slice A10 j c10) j ((lg.take j).flatMap extCells) := by rw [← hW]; exact own_below Hw10.out (below_drewN (Below.refl _ _) _)
                  have hz11 : w9.heap.size ≤ w11.heap.size := by rw [← hW]; exact by simpa using hz10
                  have hh11 : Below w9.heap.size w9 w11 := by rw [← hW]; exact below_drewN H910.out _
                  clear hW
                  have Hw11 := Lib.hid hw11
                  have H911 := Lib.hid hh11
                  clear hw11 hh11 hz10 x0 x1 HG10 B10 Hown10 R10 H910 Hw10
                  have HG11 := Lib.hid hG11
                  have B11 := Lib.hid hB11
                  have Hown11 := Lib.hid ho11
                  have R11 := Lib.hid hr11
                  clear hG11 hB11 ho11 hr11 x2
                  have x2 := (box3 R11.out).2.2.1
                  have z11 := HG11.out.lt.1
                  have z11' := lt_of_heap R11.out
                  obtain ⟨bw', ow', hAw, hbw2, hcw⟩ := exts_at (Cells.of_own Hown11.out) (by omega)
                  injection hAw with hAw
                  injection hAw with hAw1 hAw2
                  subst hAw1 hAw2
                  obtain ⟨x0, x1⟩ := hcw j x Hx.out
                  clear hcw
                  have hz9 := H911.out.size
                  have c3 : ¬ c7 = j := by omega
                  have c2 : j ≤ c7 := by omega
                  have c1 : (j : Int) ≤ (c7 : Int) := by omega
                  have Hdr := Lib.hid (show Cells w11 (some ⟨bh, oh + (j) * 2, none⟩) ((lg.drop (j)).flatMap extCells) by
                    have hc := Cells.below Hcw.out H911.out
                    rw [flat_drop extCells 2 extCells_length]
                    refine Cells.drop hc (fun b' off' hlt he => ?_)
                    injection he with he
                    injection he with he1 he2
                    subst he1 he2
                    rfl)
                  obtain ⟨N, HN13⟩ : ∃ N, SumIs j (lg.length - j) N := ⟨_, ⟨rfl⟩⟩
                  go_wp2_with (at_builtin; refine wpList_append_any _ rfl (.tmp 164) (.tmp 167) _ (by rfl) w9.heap.size 40 i0 _ 2 16 Try.underlying36 hi0 hz0 hz1 hz2 rfl (by omega) (.slice A10 j c10) j ((lg.take j).flatMap extCells) (by rfl) (own_below Hw11.out (by repeat (first | exact Below.refl _ _ | refine below_drewN ?_ _ | refine Below.drew ?_))) _ (lg.length - j) _ ((lg.drop (j)).flatMap extCells) (by rfl) (by rw [exts_len, List.length_drop]) (Hdr.out) (exts_one _) (by simp only [maxLen]; omega) (by omega) (by first | omega | (simp; omega)) ?_; intro v13 w13 hown13 hg13 hat13; have hown13 : World.ownsRow w13 w9.heap.size 40 2 v13 N ((lg.take j).flatMap extCells ++ (lg.drop (j)).flatMap extCells) := (by have h13 := HN13.eq; subst h13; exact hown13); obtain ⟨A13, c13, rfl, hc13, hm13, hcs13⟩ := own_slice hown13; have H1113 := Lib.hid (show Below w9.heap.size w11 w13 from Below.grown (by repeat (first | exact Below.refl _ _ | refine below_drewN ?_ _ | refine Below.drew ?_)) hg13 (by first | omega | (simp; omega)) (own_ge Hw11.out)); have Hcs13 := Lib.hid hcs13; clear hown13 hg13 hat13 hcs13)
                  have H913 := Lib.hid (H911.out.trans H1113.out)
                  have HG13 := Lib.hid (HG9.out.below H913.out)
                  have B13 := Lib.hid (below_only B9.out H913.out)
                  have hLl := HG13.out.size
                  refine (free_any _ p1 64 e L q _ HG13.out).mono ?_
                  rintro r w14 ⟨v, rfl, A14, c14, rfl, hc14, hcs14, _, hb⟩
                  have HG14 := Lib.hid (HG13.out.below hb)
                  have B14 := Lib.hid (below_only B13.out hb)
                  obtain ⟨Wl, hWl⟩ : ∃ Wl : List Ext, lg.take j ++ lg.drop (j) = Wl := ⟨_, rfl⟩
                  have hwant : Exts w14 A13 Wl := by
                    have := Cells.below Hcs13.out hb
                    rw [← hWl]
                    show Cells w14 A13 ((lg.take j ++ lg.drop (j)).flatMap extCells)
                    rw [List.flatMap_append]
                    exact this
                  have hlen : N = Wl.length := by rw [← HN13.eq, ← hWl]; simp; omega
                  have hs : decide (L = Wl) = true := decide_eq_true (by rw [HFn.out, ← hWl]; first | done | simp)
                  have hL2 : Wl.length ≤ 9223372036854775807 := by rw [← hlen, ← HN13.eq]; omega
                  subst hlen
                  have Hs := Lib.hid hs
                  have Hc14 := Lib.hid hcs14
                  have Hwant := Lib.hid hwant
                  clear hb hcs14 hwant hs hWl HN13
                  go_wp2_with fail
                  refine (same_any A14 A13 c14 c13 L Wl _ (by omega) hL2 Hc14.out Hwant.out).mono ?_
                  rintro r w15 ⟨rfl, hb⟩
                  rw [Hs.out]
                  have HG15 := Lib.hid (HG14.out.below hb)
                  have B15 := Lib.hid (below_only B14.out hb)
                  clear hb
                  go_wp2
                  go_roundw
                  case rel => exact ⟨k + 1, L, q, by omega, by omega, by go_num, HG15.out, B15.out⟩
                  case measure => simp [intOf]; omega

                · have hx8 : ¬ xn % 8 = 0 := fun h8 => by rw [carveBad_no.2 ⟨by omega, h8⟩] at hbad; cases hbad
                  have m1 : decide (xn > 0) = true := decide_eq_true (by omega)
                  have m1' : decide (0 < xn) = true := decide_eq_true (by omega)
                  have m2 : ((xn.tmod 8 : Int) == 0) = false := by rw [beq_eq_false_iff_ne]; rw [Ne, tmod8]; exact hx8
                  have m2' : ((xn % 8 : Int) == 0) = false := by rw [beq_eq_false_iff_ne]; exact hx8
                  have HF := Lib.hid (first_none (n := xn) (l := lg) (.inl hbad))
                  clear hx8
                  obtain rfl : ok = false := by rw [← HR3.out, HF.out]
                  obtain rfl : rc = 0 := by rw [← HR1.out, HF.out]
                  have HLf := Lib.hid HR2.out
                  have HFn := Lib.hid (show L = lg by rw [← HR2.out, HF.out])
                  clear HLf R5 HG5 B5 H56 HG7 B7 Hown7 H57 R7 Hq Hmay HB2 HG1 Hz He1 HGk HB Hlow Hhigh HR1 HR2 HR3 hcan HF HL o0 o1 o2 o3 hbl
                  go_wp2
                  go_quiet (fail)
                  generalize hW : World.drewN (World.drewN w8 _) _ = w9
                  have hG9 : Gr w1.heap.size w9 p1 64 e L q := by rw [← hW]; exact HG8.out.below (below_drewN (below_drewN (Below.refl _ _) _) _)
                  have hB9 : Below w.heap.size w w9 := by rw [← hW]; exact below_drewN (below_drewN B8.out _) _
                  have ho9 : World.ownsRow w9 w5.heap.size 40 2 (.slice (some ⟨bh, oh, none⟩) lg.length c7) lg.length (lg.flatMap extCells) := by rw [← hW]; exact own_below Hown8.out (below_drewN (below_drewN (Below.refl _ _) _) _)
                  have hr9 : w9.heap[wr.heap.size]? = some (.cells #[.int .u8 xk, .int .i64 xa, .int .i64 xn] 31 (0, 0)) := by rw [← hW]; exact heap_drewN (heap_drewN R8.out)
                  clear hW
                  have HG9 := Lib.hid hG9
                  have B9 := Lib.hid hB9
                  have Hown9 := Lib.hid ho9
                  have R9 := Lib.hid hr9
                  clear hG9 hB9 ho9 hr9 x2 x0 x1
                  have x2 := (box3 R9.out).2.2.1
                  have zop := lt_of_heap R9.out
                  clear HG8 B8 Hown8 R8
                  have z9 := HG9.out.lt.1
                  have hjt : j ≤ lg.length := hK
                  obtain ⟨bw, ow, hAw, hbw, hcw⟩ := exts_at (Cells.of_own Hown9.out) (by omega)
                  injection hAw with hAw
                  injection hAw with hAw1 hAw2
                  subst hAw1 hAw2
                  obtain ⟨x0, x1⟩ := hcw j x Hx.out
                  have Hcw := Lib.hid (Cells.of_own Hown9.out)
                  clear hcw
                  have Htk := Lib.hid (show Cells w9 (some ⟨bh, oh, none⟩) ((lg.take j).flatMap extCells) by rw [flat_take extCells 2 extCells_length]; exact Cells.take Hcw.out _)
                  go_wp2_with (at_builtin; refine wpList_append_any _ rfl (.tmp 87) (.tmp 90) _ (by rfl) w9.heap.size 40 i0 _ 2 16 Try.underlying36 hi0 hz0 hz1 hz2 rfl (by omega) (.slice (some ⟨w9.heap.size, 0, none⟩) 0 0) 0 [] (by rfl) (own_empty (Nat.le_refl _) (row_new _ _ _)) (some ⟨bh, oh, none⟩) j c7 ((lg.take j).flatMap extCells) (by rfl) (by rw [exts_len, List.length_take, Nat.min_eq_left hjt]) (Cells.alloc Htk.out _) (exts_one _) (by simp only [maxLen]; omega) (by omega) (by simp) ?_; intro v10 w10 hown10 hg10 hat10; simp only [Nat.zero_add, List.nil_append] at hown10; obtain ⟨A10, c10, rfl, hc10, hm10, hcs10⟩ := own_slice hown10; have Hw10 := Lib.hid hown10; have H910 := Lib.hid (((Below.refl w9.heap.size w9).alloc (Nat.le_refl _) (.cells #[] 40)).grown hg10 (by simp) (fun i hi => by simp [Value.ownBlock] at hi; omega)); have R10 := Lib.hid (row_below R9.out H910.out); have x2' := (box3 R10.out).2.2.1; clear x2; have x2 := x2'; clear x2' hown10 hg10 hat10 hcs10; have x0' := old_cell H910.out x0; have x1' := old_cell H910.out x1; clear x0 x1; have x0 := x0'; have x1 := x1'; clear x0' x1')
                  have HG10 := Lib.hid (HG9.out.below H910.out)
                  have B10 := Lib.hid (below_only B9.out H910.out)
                  have Hown10 := Lib.hid (own_below Hown9.out H910.out)
                  have hz10 := H910.out.size
                  go_quiet (fail)
                  generalize hW : World.drewN w10 _ = w11
                  have hG11 : Gr w1.heap.size w11 p1 64 e L q := by rw [← hW]; exact HG10.out.below (below_drewN (Below.refl _ _) _)
                  have hB11 : Below w.heap.size w w11 := by rw [← hW]; exact below_drewN B10.out _
                  have ho11 : World.ownsRow w11 w5.heap.size 40 2 (.slice (some ⟨bh, oh, none⟩) lg.length c7) lg.length (lg.flatMap extCells) := by rw [← hW]; exact own_below Hown10.out (below_drewN (Below.refl _ _) _)
                  have hr11 : w11.heap[wr.heap.size]? = some (.cells #[.int .u8 xk, .int .i64 xa, .int .i64 xn] 31 (0, 0)) := by rw [← hW]; exact heap_drewN R10.out
                  have hw11 : World.ownsRow w11 w9.heap.size 40 2 (.slice A10 j c10) j ((lg.take j).flatMap extCells) := by rw [← hW]; exact own_below Hw10.out (below_drewN (Below.refl _ _) _)
                  have hz11 : w9.heap.size ≤ w11.heap.size := by rw [← hW]; exact by simpa using hz10
                  have hh11 : Below w9.heap.size w9 w11 := by rw [← hW]; exact below_drewN H910.out _
                  clear hW
                  have Hw11 := Lib.hid hw11
                  have H911 := Lib.hid hh11
                  clear hw11 hh11 hz10 x0 x1 HG10 B10 Hown10 R10 H910 Hw10
                  have HG11 := Lib.hid hG11
                  have B11 := Lib.hid hB11
                  have Hown11 := Lib.hid ho11
                  have R11 := Lib.hid hr11
                  clear hG11 hB11 ho11 hr11 x2
                  have x2 := (box3 R11.out).2.2.1
                  have z11 := HG11.out.lt.1
                  have z11' := lt_of_heap R11.out
                  obtain ⟨bw', ow', hAw, hbw2, hcw⟩ := exts_at (Cells.of_own Hown11.out) (by omega)
                  injection hAw with hAw
                  injection hAw with hAw1 hAw2
                  subst hAw1 hAw2
                  obtain ⟨x0, x1⟩ := hcw j x Hx.out
                  clear hcw
                  have hz9 := H911.out.size
                  have c3 : ¬ c7 = j := by omega
                  have c2 : j ≤ c7 := by omega
                  have c1 : (j : Int) ≤ (c7 : Int) := by omega
                  have Hdr := Lib.hid (show Cells w11 (some ⟨bh, oh + (j) * 2, none⟩) ((lg.drop (j)).flatMap extCells) by
                    have hc := Cells.below Hcw.out H911.out
                    rw [flat_drop extCells 2 extCells_length]
                    refine Cells.drop hc (fun b' off' hlt he => ?_)
                    injection he with he
                    injection he with he1 he2
                    subst he1 he2
                    rfl)
                  obtain ⟨N, HN13⟩ : ∃ N, SumIs j (lg.length - j) N := ⟨_, ⟨rfl⟩⟩
                  go_wp2_with (at_builtin; refine wpList_append_any _ rfl (.tmp 164) (.tmp 167) _ (by rfl) w9.heap.size 40 i0 _ 2 16 Try.underlying36 hi0 hz0 hz1 hz2 rfl (by omega) (.slice A10 j c10) j ((lg.take j).flatMap extCells) (by rfl) (own_below Hw11.out (by repeat (first | exact Below.refl _ _ | refine below_drewN ?_ _ | refine Below.drew ?_))) _ (lg.length - j) _ ((lg.drop (j)).flatMap extCells) (by rfl) (by rw [exts_len, List.length_drop]) (Hdr.out) (exts_one _) (by simp only [maxLen]; omega) (by omega) (by first | omega | (simp; omega)) ?_; intro v13 w13 hown13 hg13 hat13; have hown13 : World.ownsRow w13 w9.heap.size 40 2 v13 N ((lg.take j).flatMap extCells ++ (lg.drop (j)).flatMap extCells) := (by have h13 := HN13.eq; subst h13; exact hown13); obtain ⟨A13, c13, rfl, hc13, hm13, hcs13⟩ := own_slice hown13; have H1113 := Lib.hid (show Below w9.heap.size w11 w13 from Below.grown (by repeat (first | exact Below.refl _ _ | refine below_drewN ?_ _ | refine Below.drew ?_)) hg13 (by first | omega | (simp; omega)) (own_ge Hw11.out)); have Hcs13 := Lib.hid hcs13; clear hown13 hg13 hat13 hcs13)
                  have H913 := Lib.hid (H911.out.trans H1113.out)
                  have HG13 := Lib.hid (HG9.out.below H913.out)
                  have B13 := Lib.hid (below_only B9.out H913.out)
                  have hLl := HG13.out.size
                  refine (free_any _ p1 64 e L q _ HG13.out).mono ?_
                  rintro r w14 ⟨v, rfl, A14, c14, rfl, hc14, hcs14, _, hb⟩
                  have HG14 := Lib.hid (HG13.out.below hb)
                  have B14 := Lib.hid (below_only B13.out hb)
                  obtain ⟨Wl, hWl⟩ : ∃ Wl : List Ext, lg.take j ++ lg.drop (j) = Wl := ⟨_, rfl⟩
                  have hwant : Exts w14 A13 Wl := by
                    have := Cells.below Hcs13.out hb
                    rw [← hWl]
                    show Cells w14 A13 ((lg.take j ++ lg.drop (j)).flatMap extCells)
                    rw [List.flatMap_append]
                    exact this
                  have hlen : N = Wl.length := by rw [← HN13.eq, ← hWl]; simp; omega
                  have hs : decide (L = Wl) = true := decide_eq_true (by rw [HFn.out, ← hWl]; first | done | simp)
                  have hL2 : Wl.length ≤ 9223372036854775807 := by rw [← hlen, ← HN13.eq]; omega
                  subst hlen
                  have Hs := Lib.hid hs
                  have Hc14 := Lib.hid hcs14
                  have Hwant := Lib.hid hwant
                  clear hb hcs14 hwant hs hWl HN13
                  go_wp2_with fail
                  refine (same_any A14 A13 c14 c13 L Wl _ (by omega) hL2 Hc14.out Hwant.out).mono ?_
                  rintro r w15 ⟨rfl, hb⟩
                  rw [Hs.out]
                  have HG15 := Lib.hid (HG14.out.below hb)
                  have B15 := Lib.hid (below_only B14.out hb)
                  clear hb
                  go_wp2
                  go_roundw
                  case rel => exact ⟨k + 1, L, q, by omega, by omega, by go_num, HG15.out, B15.out⟩
                  case measure => simp [intOf]; omega

              · have hb : carveBad xn = false := by simpa using hbad
                obtain ⟨n1, n8⟩ := carveBad_no.1 hb
                have m1 : decide (xn > 0) = true := decide_eq_true (by omega)
                have m1' : decide (0 < xn) = true := decide_eq_true (by omega)
                have m2 : ((xn.tmod 8 : Int) == 0) = true := by rw [(tmod8 xn).2 n8]; rfl
                have m2' : ((xn % 8 : Int) == 0) = true := by rw [n8]; rfl
                have N8 := Lib.hid n8
                clear n8
                have HF := Lib.hid (first_some hb Hx.out hxn Hlow.out)
                obtain rfl : ok = true := by rw [← HR3.out, HF.out]
                obtain rfl : rc = x.1 := by rw [← HR1.out, HF.out]
                have hne : ((x.1 : Int) != x.1) = false := by simp
                clear hb hbad
                by_cases heq : x.2 = xn
                · have m3 : decide (x.2 > xn) = false := decide_eq_false (by omega)
                  have m3' : decide (xn < x.2) = false := decide_eq_false (by omega)
                  have Heq := Lib.hid heq
                  have HLf := Lib.hid HR2.out
                  have HFn := Lib.hid (show L = lg.take j ++ lg.drop (j + 1) by rw [← HR2.out, HF.out]; simp [Heq.out])
                  clear heq HLf R5 HG5 B5 H56 HG7 B7 Hown7 H57 R7 Hq Hmay HB2 HG1 Hz He1 HGk HB Hlow Hhigh HR1 HR2 HR3 hcan HF HL o0 o1 o2 o3 hbl
                  go_wp2
                  go_quiet (fail)
                  generalize hW : World.drewN (World.drewN w8 _) _ = w9
                  have hG9 : Gr w1.heap.size w9 p1 64 e L q := by rw [← hW]; exact HG8.out.below (below_drewN (below_drewN (Below.refl _ _) _) _)
                  have hB9 : Below w.heap.size w w9 := by rw [← hW]; exact below_drewN (below_drewN B8.out _) _
                  have ho9 : World.ownsRow w9 w5.heap.size 40 2 (.slice (some ⟨bh, oh, none⟩) lg.length c7) lg.length (lg.flatMap extCells) := by rw [← hW]; exact own_below Hown8.out (below_drewN (below_drewN (Below.refl _ _) _) _)
                  have hr9 : w9.heap[wr.heap.size]? = some (.cells #[.int .u8 xk, .int .i64 xa, .int .i64 xn] 31 (0, 0)) := by rw [← hW]; exact heap_drewN (heap_drewN R8.out)
                  clear hW
                  have HG9 := Lib.hid hG9
                  have B9 := Lib.hid hB9
                  have Hown9 := Lib.hid ho9
                  have R9 := Lib.hid hr9
                  clear hG9 hB9 ho9 hr9 x2 x0 x1
                  have x2 := (box3 R9.out).2.2.1
                  have zop := lt_of_heap R9.out
                  clear HG8 B8 Hown8 R8
                  have z9 := HG9.out.lt.1
                  have hjt : j ≤ lg.length := hK
                  obtain ⟨bw, ow, hAw, hbw, hcw⟩ := exts_at (Cells.of_own Hown9.out) (by omega)
                  injection hAw with hAw
                  injection hAw with hAw1 hAw2
                  subst hAw1 hAw2
                  obtain ⟨x0, x1⟩ := hcw j x Hx.out
                  have Hcw := Lib.hid (Cells.of_own Hown9.out)
                  clear hcw
                  have Htk := Lib.hid (show Cells w9 (some ⟨bh, oh, none⟩) ((lg.take j).flatMap extCells) by rw [flat_take extCells 2 extCells_length]; exact Cells.take Hcw.out _)
                  go_wp2_with (at_builtin; refine wpList_append_any _ rfl (.tmp 87) (.tmp 90) _ (by rfl) w9.heap.size 40 i0 _ 2 16 Try.underlying36 hi0 hz0 hz1 hz2 rfl (by omega) (.slice (some ⟨w9.heap.size, 0, none⟩) 0 0) 0 [] (by rfl) (own_empty (Nat.le_refl _) (row_new _ _ _)) (some ⟨bh, oh, none⟩) j c7 ((lg.take j).flatMap extCells) (by rfl) (by rw [exts_len, List.length_take, Nat.min_eq_left hjt]) (Cells.alloc Htk.out _) (exts_one _) (by simp only [maxLen]; omega) (by omega) (by simp) ?_; intro v10 w10 hown10 hg10 hat10; simp only [Nat.zero_add, List.nil_append] at hown10; obtain ⟨A10, c10, rfl, hc10, hm10, hcs10⟩ := own_slice hown10; have Hw10 := Lib.hid hown10; have H910 := Lib.hid (((Below.refl w9.heap.size w9).alloc (Nat.le_refl _) (.cells #[] 40)).grown hg10 (by simp) (fun i hi => by simp [Value.ownBlock] at hi; omega)); have R10 := Lib.hid (row_below R9.out H910.out); have x2' := (box3 R10.out).2.2.1; clear x2; have x2 := x2'; clear x2' hown10 hg10 hat10 hcs10; have x0' := old_cell H910.out x0; have x1' := old_cell H910.out x1; clear x0 x1; have x0 := x0'; have x1 := x1'; clear x0' x1')
                  have HG10 := Lib.hid (HG9.out.below H910.out)
                  have B10 := Lib.hid (below_only B9.out H910.out)
                  have Hown10 := Lib.hid (own_below Hown9.out H910.out)
                  have hz10 := H910.out.size
                  go_quiet (fail)
                  generalize hW : World.drewN w10 _ = w11
                  have hG11 : Gr w1.heap.size w11 p1 64 e L q := by rw [← hW]; exact HG10.out.below (below_drewN (Below.refl _ _) _)
                  have hB11 : Below w.heap.size w w11 := by rw [← hW]; exact below_drewN B10.out _
                  have ho11 : World.ownsRow w11 w5.heap.size 40 2 (.slice (some ⟨bh, oh, none⟩) lg.length c7) lg.length (lg.flatMap extCells) := by rw [← hW]; exact own_below Hown10.out (below_drewN (Below.refl _ _) _)
                  have hr11 : w11.heap[wr.heap.size]? = some (.cells #[.int .u8 xk, .int .i64 xa, .int .i64 xn] 31 (0, 0)) := by rw [← hW]; exact heap_drewN R10.out
                  have hw11 : World.ownsRow w11 w9.heap.size 40 2 (.slice A10 j c10) j ((lg.take j).flatMap extCells) := by rw [← hW]; exact own_below Hw10.out (below_drewN (Below.refl _ _) _)
                  have hz11 : w9.heap.size ≤ w11.heap.size := by rw [← hW]; exact by simpa using hz10
                  have hh11 : Below w9.heap.size w9 w11 := by rw [← hW]; exact below_drewN H910.out _
                  clear hW
                  have Hw11 := Lib.hid hw11
                  have H911 := Lib.hid hh11
                  clear hw11 hh11 hz10 x0 x1 HG10 B10 Hown10 R10 H910 Hw10
                  have HG11 := Lib.hid hG11
                  have B11 := Lib.hid hB11
                  have Hown11 := Lib.hid ho11
                  have R11 := Lib.hid hr11
                  clear hG11 hB11 ho11 hr11 x2
                  have x2 := (box3 R11.out).2.2.1
                  have z11 := HG11.out.lt.1
                  have z11' := lt_of_heap R11.out
                  obtain ⟨bw', ow', hAw, hbw2, hcw⟩ := exts_at (Cells.of_own Hown11.out) (by omega)
                  injection hAw with hAw
                  injection hAw with hAw1 hAw2
                  subst hAw1 hAw2
                  obtain ⟨x0, x1⟩ := hcw j x Hx.out
                  clear hcw
                  have hz9 := H911.out.size
                  by_cases hj2 : j + 1 < lg.length
                  · have c3 : ¬ c7 = j + 1 := by omega
                    have c2 : j + 1 ≤ c7 := by omega
                    have c1 : (j : Int) + 1 ≤ (c7 : Int) := by omega
                    have Hdr := Lib.hid (show Cells w11 (some ⟨bh, oh + (j + 1) * 2, none⟩) ((lg.drop (j + 1)).flatMap extCells) by
                      have hc := Cells.below Hcw.out H911.out
                      rw [flat_drop extCells 2 extCells_length]
                      refine Cells.drop hc (fun b' off' hlt he => ?_)
                      injection he with he
                      injection he with he1 he2
                      subst he1 he2
                      rfl)
                    obtain ⟨N, HN13⟩ : ∃ N, SumIs j (lg.length - (j + 1)) N := ⟨_, ⟨rfl⟩⟩
                    go_wp2_with (at_builtin; refine wpList_append_any _ rfl (.tmp 164) (.tmp 167) _ (by rfl) w9.heap.size 40 i0 _ 2 16 Try.underlying36 hi0 hz0 hz1 hz2 rfl (by omega) (.slice A10 j c10) j ((lg.take j).flatMap extCells) (by rfl) (own_below Hw11.out (by repeat (first | exact Below.refl _ _ | refine below_drewN ?_ _ | refine Below.drew ?_))) _ (lg.length - (j + 1)) _ ((lg.drop (j + 1)).flatMap extCells) (by rfl) (by rw [exts_len, List.length_drop]) (Hdr.out) (exts_one _) (by simp only [maxLen]; omega) (by omega) (by first | omega | (simp; omega)) ?_; intro v13 w13 hown13 hg13 hat13; have hown13 : World.ownsRow w13 w9.heap.size 40 2 v13 N ((lg.take j).flatMap extCells ++ (lg.drop (j + 1)).flatMap extCells) := (by have h13 := HN13.eq; subst h13; exact hown13); obtain ⟨A13, c13, rfl, hc13, hm13, hcs13⟩ := own_slice hown13; have H1113 := Lib.hid (show Below w9.heap.size w11 w13 from Below.grown (by repeat (first | exact Below.refl _ _ | refine below_drewN ?_ _ | refine Below.drew ?_)) hg13 (by first | omega | (simp; omega)) (own_ge Hw11.out)); have Hcs13 := Lib.hid hcs13; clear hown13 hg13 hat13 hcs13)
                    have H913 := Lib.hid (H911.out.trans H1113.out)
                    have HG13 := Lib.hid (HG9.out.below H913.out)
                    have B13 := Lib.hid (below_only B9.out H913.out)
                    have hLl := HG13.out.size
                    refine (free_any _ p1 64 e L q _ HG13.out).mono ?_
                    rintro r w14 ⟨v, rfl, A14, c14, rfl, hc14, hcs14, _, hb⟩
                    have HG14 := Lib.hid (HG13.out.below hb)
                    have B14 := Lib.hid (below_only B13.out hb)
                    obtain ⟨Wl, hWl⟩ : ∃ Wl : List Ext, lg.take j ++ lg.drop (j + 1) = Wl := ⟨_, rfl⟩
                    have hwant : Exts w14 A13 Wl := by
                      have := Cells.below Hcs13.out hb
                      rw [← hWl]
                      show Cells w14 A13 ((lg.take j ++ lg.drop (j + 1)).flatMap extCells)
                      rw [List.flatMap_append]
                      exact this
                    have hlen : N = Wl.length := by rw [← HN13.eq, ← hWl]; simp; omega
                    have hs : decide (L = Wl) = true := decide_eq_true (by rw [HFn.out, ← hWl]; first | done | simp)
                    have hL2 : Wl.length ≤ 9223372036854775807 := by rw [← hlen, ← HN13.eq]; omega
                    subst hlen
                    have Hs := Lib.hid hs
                    have Hc14 := Lib.hid hcs14
                    have Hwant := Lib.hid hwant
                    clear hb hcs14 hwant hs hWl HN13
                    go_wp2_with fail
                    refine (same_any A14 A13 c14 c13 L Wl _ (by omega) hL2 Hc14.out Hwant.out).mono ?_
                    rintro r w15 ⟨rfl, hb⟩
                    rw [Hs.out]
                    have HG15 := Lib.hid (HG14.out.below hb)
                    have B15 := Lib.hid (below_only B14.out hb)
                    clear hb
                    go_wp2
                    go_roundw
                    case rel => exact ⟨k + 1, L, q, by omega, by omega, by go_num, HG15.out, B15.out⟩
                    case measure => simp [intOf]; omega

                  · have c7c : c7 = j + 1 ∨ ¬ c7 = j + 1 := by omega
                    have c2 : j + 1 ≤ c7 := by omega
                    have c1 : (j : Int) + 1 ≤ (c7 : Int) := by omega
                    have Hnil := Lib.hid (show lg.drop (j + 1) = [] from List.drop_eq_nil_of_le (by omega))
                    have Hj2 := Lib.hid hj2
                    clear hj2
                    rcases c7c with rfl | c3
                    · obtain ⟨N, HN13⟩ : ∃ N, SumIs j 0 N := ⟨_, ⟨rfl⟩⟩
                      go_wp2_with (at_builtin; refine wpList_append_any _ rfl (.tmp 164) (.tmp 167) _ (by rfl) w9.heap.size 40 i0 _ 2 16 Try.underlying36 hi0 hz0 hz1 hz2 rfl (by omega) (.slice A10 j c10) j ((lg.take j).flatMap extCells) (by rfl) (own_below Hw11.out (by repeat (first | exact Below.refl _ _ | refine below_drewN ?_ _ | refine Below.drew ?_))) _ 0 _ ((lg.drop (j + 1)).flatMap extCells) (by rfl) (by rw [Hnil.out]; rfl) (by rw [Hnil.out]; exact Cells.nil) (exts_one _) (by simp only [maxLen]; omega) (by omega) (by first | omega | (simp; omega)) ?_; intro v13 w13 hown13 hg13 hat13; have hown13 : World.ownsRow w13 w9.heap.size 40 2 v13 N ((lg.take j).flatMap extCells ++ (lg.drop (j + 1)).flatMap extCells) := (by have h13 := HN13.eq; subst h13; exact hown13); obtain ⟨A13, c13, rfl, hc13, hm13, hcs13⟩ := own_slice hown13; have H1113 := Lib.hid (show Below w9.heap.size w11 w13 from Below.grown (by repeat (first | exact Below.refl _ _ | refine below_drewN ?_ _ | refine Below.drew ?_)) hg13 (by first | omega | (simp; omega)) (own_ge Hw11.out)); have Hcs13 := Lib.hid hcs13; clear hown13 hg13 hat13 hcs13)
                      have H913 := Lib.hid (H911.out.trans H1113.out)
                      have HG13 := Lib.hid (HG9.out.below H913.out)
                      have B13 := Lib.hid (below_only B9.out H913.out)
                      have hLl := HG13.out.size
                      refine (free_any _ p1 64 e L q _ HG13.out).mono ?_
                      rintro r w14 ⟨v, rfl, A14, c14, rfl, hc14, hcs14, _, hb⟩
                      have HG14 := Lib.hid (HG13.out.below hb)
                      have B14 := Lib.hid (below_only B13.out hb)
                      obtain ⟨Wl, hWl⟩ : ∃ Wl : List Ext, lg.take j ++ lg.drop (j + 1) = Wl := ⟨_, rfl⟩
                      have hwant : Exts w14 A13 Wl := by
                        have := Cells.below Hcs13.out hb
                        rw [← hWl]
                        show Cells w14 A13 ((lg.take j ++ lg.drop (j + 1)).flatMap extCells)
                        rw [List.flatMap_append]
                        exact this
                      have hlen : N = Wl.length := by rw [← HN13.eq, ← hWl]; simp; omega
                      have hs : decide (L = Wl) = true := decide_eq_true (by rw [HFn.out, ← hWl]; first | done | simp)
                      have hL2 : Wl.length ≤ 9223372036854775807 := by rw [← hlen, ← HN13.eq]; omega
                      subst hlen
                      have Hs := Lib.hid hs
                      have Hc14 := Lib.hid hcs14
                      have Hwant := Lib.hid hwant
                      clear hb hcs14 hwant hs hWl HN13
                      go_wp2_with fail
                      refine (same_any A14 A13 c14 c13 L Wl _ (by omega) hL2 Hc14.out Hwant.out).mono ?_
                      rintro r w15 ⟨rfl, hb⟩
                      rw [Hs.out]
                      have HG15 := Lib.hid (HG14.out.below hb)
                      have B15 := Lib.hid (below_only B14.out hb)
                      clear hb
                      go_wp2
                      go_roundw
                      case rel => exact ⟨k + 1, L, q, by omega, by omega, by go_num, HG15.out, B15.out⟩
                      case measure => simp [intOf]; omega

                    · obtain ⟨N, HN13⟩ : ∃ N, SumIs j (lg.length - (j + 1)) N := ⟨_, ⟨rfl⟩⟩
                      go_wp2_with (at_builtin; refine wpList_append_any _ rfl (.tmp 164) (.tmp 167) _ (by rfl) w9.heap.size 40 i0 _ 2 16 Try.underlying36 hi0 hz0 hz1 hz2 rfl (by omega) (.slice A10 j c10) j ((lg.take j).flatMap extCells) (by rfl) (own_below Hw11.out (by repeat (first | exact Below.refl _ _ | refine below_drewN ?_ _ | refine Below.drew ?_))) _ (lg.length - (j + 1)) _ ((lg.drop (j + 1)).flatMap extCells) (by rfl) (by rw [exts_len, List.length_drop]) (by rw [Hnil.out]; exact Cells.nil) (exts_one _) (by simp only [maxLen]; omega) (by omega) (by first | omega | (simp; omega)) ?_; intro v13 w13 hown13 hg13 hat13; have hown13 : World.ownsRow w13 w9.heap.size 40 2 v13 N ((lg.take j).flatMap extCells ++ (lg.drop (j + 1)).flatMap extCells) := (by have h13 := HN13.eq; subst h13; exact hown13); obtain ⟨A13, c13, rfl, hc13, hm13, hcs13⟩ := own_slice hown13; have H1113 := Lib.hid (show Below w9.heap.size w11 w13 from Below.grown (by repeat (first | exact Below.refl _ _ | refine below_drewN ?_ _ | refine Below.drew ?_)) hg13 (by first | omega | (simp; omega)) (own_ge Hw11.out)); have Hcs13 := Lib.hid hcs13; clear hown13 hg13 hat13 hcs13)
                      have H913 := Lib.hid (H911.out.trans H1113.out)
                      have HG13 := Lib.hid (HG9.out.below H913.out)
                      have B13 := Lib.hid (below_only B9.out H913.out)
                      have hLl := HG13.out.size
                      refine (free_any _ p1 64 e L q _ HG13.out).mono ?_
                      rintro r w14 ⟨v, rfl, A14, c14, rfl, hc14, hcs14, _, hb⟩
                      have HG14 := Lib.hid (HG13.out.below hb)
                      have B14 := Lib.hid (below_only B13.out hb)
                      obtain ⟨Wl, hWl⟩ : ∃ Wl : List Ext, lg.take j ++ lg.drop (j + 1) = Wl := ⟨_, rfl⟩
                      have hwant : Exts w14 A13 Wl := by
                        have := Cells.below Hcs13.out hb
                        rw [← hWl]
                        show Cells w14 A13 ((lg.take j ++ lg.drop (j + 1)).flatMap extCells)
                        rw [List.flatMap_append]
                        exact this
                      have hlen : N = Wl.length := by rw [← HN13.eq, ← hWl]; simp; omega
                      have hs : decide (L = Wl) = true := decide_eq_true (by rw [HFn.out, ← hWl]; first | done | simp)
                      have hL2 : Wl.length ≤ 9223372036854775807 := by rw [← hlen, ← HN13.eq]; omega
                      subst hlen
                      have Hs := Lib.hid hs
                      have Hc14 := Lib.hid hcs14
                      have Hwant := Lib.hid hwant
                      clear hb hcs14 hwant hs hWl HN13
                      go_wp2_with fail
                      refine (same_any A14 A13 c14 c13 L Wl _ (by omega) hL2 Hc14.out Hwant.out).mono ?_
                      rintro r w15 ⟨rfl, hb⟩
                      rw [Hs.out]
                      have HG15 := Lib.hid (HG14.out.below hb)
                      have B15 := Lib.hid (below_only B14.out hb)
                      clear hb
                      go_wp2
                      go_roundw
                      case rel => exact ⟨k + 1, L, q, by omega, by omega, by go_num, HG15.out, B15.out⟩
                      case measure => simp [intOf]; omega


                · have m3 : decide (x.2 > xn) = true := decide_eq_true (by omega)
                  have m3' : decide (xn < x.2) = true := decide_eq_true (by omega)
                  have s1 : -9223372036854775808 ≤ x.1 + xn := by omega
                  have s2 : x.1 + xn ≤ 9223372036854775807 := by omega
                  have s3 : -9223372036854775808 ≤ x.2 - xn := by omega
                  have HW1 := Lib.hid (show IntKind.i64.wrap (x.1 + xn) = x.1 + xn from IntWalk.i64_in _ (by omega))
                  have HW2 := Lib.hid (show IntKind.i64.wrap (x.2 - xn) = x.2 - xn from IntWalk.i64_in _ (by omega))
                  have s4 : x.2 - xn ≤ 9223372036854775807 := by omega
                  have HLf := Lib.hid HR2.out
                  have HFn := Lib.hid (show L = lg.take j ++ ([(x.1 + xn, x.2 - xn)] ++ lg.drop (j + 1)) by rw [← HR2.out, HF.out]; simp [heq])
                  clear HLf R5 HG5 B5 H56 HG7 B7 Hown7 H57 R7 Hq Hmay HB2 HG1 Hz He1 HGk HB Hlow Hhigh HR1 HR2 HR3 hcan HF HL o0 o1 o2 o3 hbl
                  go_wp2
                  go_quiet (fail)
                  generalize hW : World.drewN (World.drewN w8 _) _ = w9
                  have hG9 : Gr w1.heap.size w9 p1 64 e L q := by rw [← hW]; exact HG8.out.below (below_drewN (below_drewN (Below.refl _ _) _) _)
                  have hB9 : Below w.heap.size w w9 := by rw [← hW]; exact below_drewN (below_drewN B8.out _) _
                  have ho9 : World.ownsRow w9 w5.heap.size 40 2 (.slice (some ⟨bh, oh, none⟩) lg.length c7) lg.length (lg.flatMap extCells) := by rw [← hW]; exact own_below Hown8.out (below_drewN (below_drewN (Below.refl _ _) _) _)
                  have hr9 : w9.heap[wr.heap.size]? = some (.cells #[.int .u8 xk, .int .i64 xa, .int .i64 xn] 31 (0, 0)) := by rw [← hW]; exact heap_drewN (heap_drewN R8.out)
                  clear hW
                  have HG9 := Lib.hid hG9
                  have B9 := Lib.hid hB9
                  have Hown9 := Lib.hid ho9
                  have R9 := Lib.hid hr9
                  clear hG9 hB9 ho9 hr9 x2 x0 x1
                  have x2 := (box3 R9.out).2.2.1
                  have zop := lt_of_heap R9.out
                  clear HG8 B8 Hown8 R8
                  have z9 := HG9.out.lt.1
                  have hjt : j ≤ lg.length := hK
                  obtain ⟨bw, ow, hAw, hbw, hcw⟩ := exts_at (Cells.of_own Hown9.out) (by omega)
                  injection hAw with hAw
                  injection hAw with hAw1 hAw2
                  subst hAw1 hAw2
                  obtain ⟨x0, x1⟩ := hcw j x Hx.out
                  have Hcw := Lib.hid (Cells.of_own Hown9.out)
                  clear hcw
                  have Htk := Lib.hid (show Cells w9 (some ⟨bh, oh, none⟩) ((lg.take j).flatMap extCells) by rw [flat_take extCells 2 extCells_length]; exact Cells.take Hcw.out _)
                  go_wp2_with (at_builtin; refine wpList_append_any _ rfl (.tmp 87) (.tmp 90) _ (by rfl) w9.heap.size 40 i0 _ 2 16 Try.underlying36 hi0 hz0 hz1 hz2 rfl (by omega) (.slice (some ⟨w9.heap.size, 0, none⟩) 0 0) 0 [] (by rfl) (own_empty (Nat.le_refl _) (row_new _ _ _)) (some ⟨bh, oh, none⟩) j c7 ((lg.take j).flatMap extCells) (by rfl) (by rw [exts_len, List.length_take, Nat.min_eq_left hjt]) (Cells.alloc Htk.out _) (exts_one _) (by simp only [maxLen]; omega) (by omega) (by simp) ?_; intro v10 w10 hown10 hg10 hat10; simp only [Nat.zero_add, List.nil_append] at hown10; obtain ⟨A10, c10, rfl, hc10, hm10, hcs10⟩ := own_slice hown10; have Hw10 := Lib.hid hown10; have H910 := Lib.hid (((Below.refl w9.heap.size w9).alloc (Nat.le_refl _) (.cells #[] 40)).grown hg10 (by simp) (fun i hi => by simp [Value.ownBlock] at hi; omega)); have R10 := Lib.hid (row_below R9.out H910.out); have x2' := (box3 R10.out).2.2.1; clear x2; have x2 := x2'; clear x2' hown10 hg10 hat10 hcs10; have x0' := old_cell H910.out x0; have x1' := old_cell H910.out x1; clear x0 x1; have x0 := x0'; have x1 := x1'; clear x0' x1')
                  have HG10 := Lib.hid (HG9.out.below H910.out)
                  have B10 := Lib.hid (below_only B9.out H910.out)
                  have Hown10 := Lib.hid (own_below Hown9.out H910.out)
                  have hz10 := H910.out.size
                  go_quiet (fail)
                  generalize hW : World.drewN w10 _ = w11
                  have hG11 : Gr w1.heap.size w11 p1 64 e L q := by rw [← hW]; exact HG10.out.below (below_drewN (Below.refl _ _) _)
                  have hB11 : Below w.heap.size w w11 := by rw [← hW]; exact below_drewN B10.out _
                  have ho11 : World.ownsRow w11 w5.heap.size 40 2 (.slice (some ⟨bh, oh, none⟩) lg.length c7) lg.length (lg.flatMap extCells) := by rw [← hW]; exact own_below Hown10.out (below_drewN (Below.refl _ _) _)
                  have hr11 : w11.heap[wr.heap.size]? = some (.cells #[.int .u8 xk, .int .i64 xa, .int .i64 xn] 31 (0, 0)) := by rw [← hW]; exact heap_drewN R10.out
                  have hw11 : World.ownsRow w11 w9.heap.size 40 2 (.slice A10 j c10) j ((lg.take j).flatMap extCells) := by rw [← hW]; exact own_below Hw10.out (below_drewN (Below.refl _ _) _)
                  have hz11 : w9.heap.size ≤ w11.heap.size := by rw [← hW]; exact by simpa using hz10
                  have hh11 : Below w9.heap.size w9 w11 := by rw [← hW]; exact below_drewN H910.out _
                  clear hW
                  have Hw11 := Lib.hid hw11
                  have H911 := Lib.hid hh11
                  clear hw11 hh11 hz10 x0 x1 HG10 B10 Hown10 R10 H910 Hw10
                  have HG11 := Lib.hid hG11
                  have B11 := Lib.hid hB11
                  have Hown11 := Lib.hid ho11
                  have R11 := Lib.hid hr11
                  clear hG11 hB11 ho11 hr11 x2
                  have x2 := (box3 R11.out).2.2.1
                  have z11 := HG11.out.lt.1
                  have z11' := lt_of_heap R11.out
                  obtain ⟨bw', ow', hAw, hbw2, hcw⟩ := exts_at (Cells.of_own Hown11.out) (by omega)
                  injection hAw with hAw
                  injection hAw with hAw1 hAw2
                  subst hAw1 hAw2
                  obtain ⟨x0, x1⟩ := hcw j x Hx.out
                  clear hcw
                  have zbh : bh < w9.heap.size := hbw
                  go_wp2
                  go_region_held3 (fun W => W.cell? ⟨bh, oh + j * 2, none⟩ = some (.int .i64 x.1) ∧ W.cell? ⟨bh, oh + j * 2 + 1, none⟩ = some (.int .i64 x.2) ∧ W.cell? ⟨wr.heap.size, 2, none⟩ = some (.int .i64 xn)) (refine And.intro ?_ (And.intro ?_ ?_) <;> first | assumption | (simp; done) | (go_simp; done)) (first | (refine step_append_any _ rfl (.tmp 141) (.tmp 159) _ (by rfl) w9.heap.size 40 i0 _ 2 16 Try.underlying36 hi0 hz0 hz1 hz2 rfl (by omega) _ j ((lg.take j).flatMap extCells) (by rfl) (own_below Hw11.out (by repeat (first | exact Below.refl _ _ | refine below_drewN ?_ _ | refine Below.drew ?_ | refine Below.alloc ?_ (by simp <;> omega) _))) (some ⟨w11.heap.size, 0, none⟩) 1 1 (extCells (IntKind.i64.wrap (x.1 + xn), IntKind.i64.wrap (x.2 - xn))) (by rfl) rfl (cells_two (by simp [go_sem]) (by simp [go_sem])) (extCells_one _) (by simp only [maxLen]; omega) (by omega) (by simp; omega) ?_; intro v12 w12 hown12 hg12 hat12; rw [HW1.out, HW2.out, show (lg.take j).flatMap extCells ++ extCells (x.1 + xn, x.2 - xn) = (lg.take j ++ [(x.1 + xn, x.2 - xn)]).flatMap extCells by simp] at hown12; obtain ⟨A12, c12, rfl, hc12, hm12, -⟩ := own_slice hown12; have Hw12 := Lib.hid hown12; have H1112 := Lib.hid (show Below w9.heap.size w11 w12 from Below.grown (by repeat (first | exact Below.refl _ _ | refine below_drewN ?_ _ | refine Below.drew ?_ | refine Below.alloc ?_ hz11 _)) hg12 (by simp; omega) (own_ge Hw11.out)); have y0 := (H1112.out.cell (p := ⟨bh, oh + j * 2, none⟩) zbh).trans x0; have y1 := (H1112.out.cell (p := ⟨bh, oh + j * 2 + 1, none⟩) zbh).trans x1; have y2 := (H1112.out.cell (p := ⟨wr.heap.size, 2, none⟩) (by omega)).trans x2; clear hown12 hg12 hat12))
                  have H912 := Lib.hid (H911.out.trans H1112.out)
                  clear x0 x1 x2 y0 y1 y2
                  have hz9 := H912.out.size
                  by_cases hj2 : j + 1 < lg.length
                  · have c3 : ¬ c7 = j + 1 := by omega
                    have c2 : j + 1 ≤ c7 := by omega
                    have c1 : (j : Int) + 1 ≤ (c7 : Int) := by omega
                    have Hdr := Lib.hid (show Cells w12 (some ⟨bh, oh + (j + 1) * 2, none⟩) ((lg.drop (j + 1)).flatMap extCells) by
                      have hc := Cells.below Hcw.out H912.out
                      rw [flat_drop extCells 2 extCells_length]
                      refine Cells.drop hc (fun b' off' hlt he => ?_)
                      injection he with he
                      injection he with he1 he2
                      subst he1 he2
                      rfl)
                    obtain ⟨N, HN13⟩ : ∃ N, SumIs (j + 1) (lg.length - (j + 1)) N := ⟨_, ⟨rfl⟩⟩
                    go_wp2_with (at_builtin; refine wpList_append_any _ rfl (.tmp 164) (.tmp 167) _ (by rfl) w9.heap.size 40 i0 _ 2 16 Try.underlying36 hi0 hz0 hz1 hz2 rfl (by omega) (.slice A12 (j + 1) c12) (j + 1) ((lg.take j ++ [(x.1 + xn, x.2 - xn)]).flatMap extCells) (by rfl) (own_below Hw12.out (by repeat (first | exact Below.refl _ _ | refine below_drewN ?_ _ | refine Below.drew ?_))) _ (lg.length - (j + 1)) _ ((lg.drop (j + 1)).flatMap extCells) (by rfl) (by rw [exts_len, List.length_drop]) (Hdr.out) (exts_one _) (by simp only [maxLen]; omega) (by omega) (by first | omega | (simp; omega)) ?_; intro v13 w13 hown13 hg13 hat13; have hown13 : World.ownsRow w13 w9.heap.size 40 2 v13 N ((lg.take j ++ [(x.1 + xn, x.2 - xn)]).flatMap extCells ++ (lg.drop (j + 1)).flatMap extCells) := (by have h13 := HN13.eq; subst h13; exact hown13); obtain ⟨A13, c13, rfl, hc13, hm13, hcs13⟩ := own_slice hown13; have H1113 := Lib.hid (show Below w9.heap.size w12 w13 from Below.grown (by repeat (first | exact Below.refl _ _ | refine below_drewN ?_ _ | refine Below.drew ?_)) hg13 (by first | omega | (simp; omega)) (own_ge Hw12.out)); have Hcs13 := Lib.hid hcs13; clear hown13 hg13 hat13 hcs13)
                    have H913 := Lib.hid (H912.out.trans H1113.out)
                    have HG13 := Lib.hid (HG9.out.below H913.out)
                    have B13 := Lib.hid (below_only B9.out H913.out)
                    have hLl := HG13.out.size
                    refine (free_any _ p1 64 e L q _ HG13.out).mono ?_
                    rintro r w14 ⟨v, rfl, A14, c14, rfl, hc14, hcs14, _, hb⟩
                    have HG14 := Lib.hid (HG13.out.below hb)
                    have B14 := Lib.hid (below_only B13.out hb)
                    obtain ⟨Wl, hWl⟩ : ∃ Wl : List Ext, lg.take j ++ [(x.1 + xn, x.2 - xn)] ++ lg.drop (j + 1) = Wl := ⟨_, rfl⟩
                    have hwant : Exts w14 A13 Wl := by
                      have := Cells.below Hcs13.out hb
                      rw [← hWl]
                      show Cells w14 A13 ((lg.take j ++ [(x.1 + xn, x.2 - xn)] ++ lg.drop (j + 1)).flatMap extCells)
                      rw [List.flatMap_append]
                      exact this
                    have hlen : N = Wl.length := by rw [← HN13.eq, ← hWl]; simp; omega
                    have hs : decide (L = Wl) = true := decide_eq_true (by rw [HFn.out, ← hWl]; first | done | simp)
                    have hL2 : Wl.length ≤ 9223372036854775807 := by rw [← hlen, ← HN13.eq]; omega
                    subst hlen
                    have Hs := Lib.hid hs
                    have Hc14 := Lib.hid hcs14
                    have Hwant := Lib.hid hwant
                    clear hb hcs14 hwant hs hWl HN13
                    go_wp2_with fail
                    refine (same_any A14 A13 c14 c13 L Wl _ (by omega) hL2 Hc14.out Hwant.out).mono ?_
                    rintro r w15 ⟨rfl, hb⟩
                    rw [Hs.out]
                    have HG15 := Lib.hid (HG14.out.below hb)
                    have B15 := Lib.hid (below_only B14.out hb)
                    clear hb
                    go_wp2
                    go_roundw
                    case rel => exact ⟨k + 1, L, q, by omega, by omega, by go_num, HG15.out, B15.out⟩
                    case measure => simp [intOf]; omega

                  · have c7c : c7 = j + 1 ∨ ¬ c7 = j + 1 := by omega
                    have c2 : j + 1 ≤ c7 := by omega
                    have c1 : (j : Int) + 1 ≤ (c7 : Int) := by omega
                    have Hnil := Lib.hid (show lg.drop (j + 1) = [] from List.drop_eq_nil_of_le (by omega))
                    have Hj2 := Lib.hid hj2
                    clear hj2
                    rcases c7c with rfl | c3
                    · obtain ⟨N, HN13⟩ : ∃ N, SumIs (j + 1) 0 N := ⟨_, ⟨rfl⟩⟩
                      go_wp2_with (at_builtin; refine wpList_append_any _ rfl (.tmp 164) (.tmp 167) _ (by rfl) w9.heap.size 40 i0 _ 2 16 Try.underlying36 hi0 hz0 hz1 hz2 rfl (by omega) (.slice A12 (j + 1) c12) (j + 1) ((lg.take j ++ [(x.1 + xn, x.2 - xn)]).flatMap extCells) (by rfl) (own_below Hw12.out (by repeat (first | exact Below.refl _ _ | refine below_drewN ?_ _ | refine Below.drew ?_))) _ 0 _ ((lg.drop (j + 1)).flatMap extCells) (by rfl) (by rw [Hnil.out]; rfl) (by rw [Hnil.out]; exact Cells.nil) (exts_one _) (by simp only [maxLen]; omega) (by omega) (by first | omega | (simp; omega)) ?_; intro v13 w13 hown13 hg13 hat13; have hown13 : World.ownsRow w13 w9.heap.size 40 2 v13 N ((lg.take j ++ [(x.1 + xn, x.2 - xn)]).flatMap extCells ++ (lg.drop (j + 1)).flatMap extCells) := (by have h13 := HN13.eq; subst h13; exact hown13); obtain ⟨A13, c13, rfl, hc13, hm13, hcs13⟩ := own_slice hown13; have H1113 := Lib.hid (show Below w9.heap.size w12 w13 from Below.grown (by repeat (first | exact Below.refl _ _ | refine below_drewN ?_ _ | refine Below.drew ?_)) hg13 (by first | omega | (simp; omega)) (own_ge Hw12.out)); have Hcs13 := Lib.hid hcs13; clear hown13 hg13 hat13 hcs13)
                      have H913 := Lib.hid (H912.out.trans H1113.out)
                      have HG13 := Lib.hid (HG9.out.below H913.out)
                      have B13 := Lib.hid (below_only B9.out H913.out)
                      have hLl := HG13.out.size
                      refine (free_any _ p1 64 e L q _ HG13.out).mono ?_
                      rintro r w14 ⟨v, rfl, A14, c14, rfl, hc14, hcs14, _, hb⟩
                      have HG14 := Lib.hid (HG13.out.below hb)
                      have B14 := Lib.hid (below_only B13.out hb)
                      obtain ⟨Wl, hWl⟩ : ∃ Wl : List Ext, lg.take j ++ [(x.1 + xn, x.2 - xn)] ++ lg.drop (j + 1) = Wl := ⟨_, rfl⟩
                      have hwant : Exts w14 A13 Wl := by
                        have := Cells.below Hcs13.out hb
                        rw [← hWl]
                        show Cells w14 A13 ((lg.take j ++ [(x.1 + xn, x.2 - xn)] ++ lg.drop (j + 1)).flatMap extCells)
                        rw [List.flatMap_append]
                        exact this
                      have hlen : N = Wl.length := by rw [← HN13.eq, ← hWl]; simp; omega
                      have hs : decide (L = Wl) = true := decide_eq_true (by rw [HFn.out, ← hWl]; first | done | simp)
                      have hL2 : Wl.length ≤ 9223372036854775807 := by rw [← hlen, ← HN13.eq]; omega
                      subst hlen
                      have Hs := Lib.hid hs
                      have Hc14 := Lib.hid hcs14
                      have Hwant := Lib.hid hwant
                      clear hb hcs14 hwant hs hWl HN13
                      go_wp2_with fail
                      refine (same_any A14 A13 c14 c13 L Wl _ (by omega) hL2 Hc14.out Hwant.out).mono ?_
                      rintro r w15 ⟨rfl, hb⟩
                      rw [Hs.out]
                      have HG15 := Lib.hid (HG14.out.below hb)
                      have B15 := Lib.hid (below_only B14.out hb)
                      clear hb
                      go_wp2
                      go_roundw
                      case rel => exact ⟨k + 1, L, q, by omega, by omega, by go_num, HG15.out, B15.out⟩
                      case measure => simp [intOf]; omega

                    · obtain ⟨N, HN13⟩ : ∃ N, SumIs (j + 1) (lg.length - (j + 1)) N := ⟨_, ⟨rfl⟩⟩
                      go_wp2_with (at_builtin; refine wpList_append_any _ rfl (.tmp 164) (.tmp 167) _ (by rfl) w9.heap.size 40 i0 _ 2 16 Try.underlying36 hi0 hz0 hz1 hz2 rfl (by omega) (.slice A12 (j + 1) c12) (j + 1) ((lg.take j ++ [(x.1 + xn, x.2 - xn)]).flatMap extCells) (by rfl) (own_below Hw12.out (by repeat (first | exact Below.refl _ _ | refine below_drewN ?_ _ | refine Below.drew ?_))) _ (lg.length - (j + 1)) _ ((lg.drop (j + 1)).flatMap extCells) (by rfl) (by rw [exts_len, List.length_drop]) (by rw [Hnil.out]; exact Cells.nil) (exts_one _) (by simp only [maxLen]; omega) (by omega) (by first | omega | (simp; omega)) ?_; intro v13 w13 hown13 hg13 hat13; have hown13 : World.ownsRow w13 w9.heap.size 40 2 v13 N ((lg.take j ++ [(x.1 + xn, x.2 - xn)]).flatMap extCells ++ (lg.drop (j + 1)).flatMap extCells) := (by have h13 := HN13.eq; subst h13; exact hown13); obtain ⟨A13, c13, rfl, hc13, hm13, hcs13⟩ := own_slice hown13; have H1113 := Lib.hid (show Below w9.heap.size w12 w13 from Below.grown (by repeat (first | exact Below.refl _ _ | refine below_drewN ?_ _ | refine Below.drew ?_)) hg13 (by first | omega | (simp; omega)) (own_ge Hw12.out)); have Hcs13 := Lib.hid hcs13; clear hown13 hg13 hat13 hcs13)
                      have H913 := Lib.hid (H912.out.trans H1113.out)
                      have HG13 := Lib.hid (HG9.out.below H913.out)
                      have B13 := Lib.hid (below_only B9.out H913.out)
                      have hLl := HG13.out.size
                      refine (free_any _ p1 64 e L q _ HG13.out).mono ?_
                      rintro r w14 ⟨v, rfl, A14, c14, rfl, hc14, hcs14, _, hb⟩
                      have HG14 := Lib.hid (HG13.out.below hb)
                      have B14 := Lib.hid (below_only B13.out hb)
                      obtain ⟨Wl, hWl⟩ : ∃ Wl : List Ext, lg.take j ++ [(x.1 + xn, x.2 - xn)] ++ lg.drop (j + 1) = Wl := ⟨_, rfl⟩
                      have hwant : Exts w14 A13 Wl := by
                        have := Cells.below Hcs13.out hb
                        rw [← hWl]
                        show Cells w14 A13 ((lg.take j ++ [(x.1 + xn, x.2 - xn)] ++ lg.drop (j + 1)).flatMap extCells)
                        rw [List.flatMap_append]
                        exact this
                      have hlen : N = Wl.length := by rw [← HN13.eq, ← hWl]; simp; omega
                      have hs : decide (L = Wl) = true := decide_eq_true (by rw [HFn.out, ← hWl]; first | done | simp)
                      have hL2 : Wl.length ≤ 9223372036854775807 := by rw [← hlen, ← HN13.eq]; omega
                      subst hlen
                      have Hs := Lib.hid hs
                      have Hc14 := Lib.hid hcs14
                      have Hwant := Lib.hid hwant
                      clear hb hcs14 hwant hs hWl HN13
                      go_wp2_with fail
                      refine (same_any A14 A13 c14 c13 L Wl _ (by omega) hL2 Hc14.out Hwant.out).mono ?_
                      rintro r w15 ⟨rfl, hb⟩
                      rw [Hs.out]
                      have HG15 := Lib.hid (HG14.out.below hb)
                      have B15 := Lib.hid (below_only B14.out hb)
                      clear hb
                      go_wp2
                      go_roundw
                      case rel => exact ⟨k + 1, L, q, by omega, by omega, by go_num, HG15.out, B15.out⟩
                      case measure => simp [intOf]; omega


    · have hex : ¬ k < l.length ∨ (k < l.length ∧ ¬ k < 50) := by omega
      clear hB hgo
      rcases hex with h1 | ⟨h1, h2⟩
      all_goals
        go_wp2
        go_ret
        exact ⟨rfl, HB.out⟩

end Go.Proofs.Ytpkohmbdmbkcbaa
