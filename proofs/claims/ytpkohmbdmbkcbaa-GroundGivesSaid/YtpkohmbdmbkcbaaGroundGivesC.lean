/- The law GroundGives's walk: what may not be given back (3). -/
import Derived.Test.YtpkohmbdmbkcbaaGroundGivesA
namespace Go.Proofs.Ytpkohmbdmbkcbaa
open Go.RowKit

set_option maxRecDepth 100000 in
set_option maxHeartbeats 4000000 in
theorem gives_bad4 (A : Option Addr) (c : Nat) (l : List Int) (a n : Int) (w : World) (he : Cells w A (l.flatMap byteCells)) (hq : ∀ e ∈ l, ByteOk e)
    (ha : (Lit.int .i64 a).wf = true) (hn : (Lit.int .i64 n).wf = true) (c0 : 0 < n) (c1 : n % 8 = 0) (c2 : a % 8 = 0) (c3 : 80 ≤ a) (c4 : ¬ (a < 480)) :
    Calls Try.prog 7 #[.slice A l.length c, .int .i64 a, .int .i64 n] w fun e w' => e = .returned (.bool true) ∧ Below w.heap.size w w' := by
  obtain ⟨a0, a1⟩ := wf_int ha
  obtain ⟨n0, n1⟩ := wf_int hn
  have Hq := Lib.hid hq
  have He := Lib.hid he
  clear ha hn hq he
  obtain ⟨i0, hi0, hz0, hz1, hz2⟩ := info_parts infoExt
  go_enter Try.func7, Try.ntmps7
  go_wp2_with fail
  refine (shown_any _).mono ?_
  rintro r w1 ⟨rfl, hb1⟩
  go_wp2_with fail
  refine (new_good 80 400 _ (by rfl)).mono ?_
  rintro r w2 ⟨p1, q1, rfl, hG1, hb2⟩
  have HG1 := Lib.hid (show Gr w1.heap.size w2 p1 80 480 [(80, 400)] q1 from hG1)
  have B2 := Lib.hid (below_only hb1 hb2)
  have z1 := hb1.size
  have z2 := hb2.size
  clear hb1 hb2 hG1
  go_wp2
  go_loopw [10] (fun t wr => GivesRel1 w w1.heap.size p1 q1 l.length t wr) (fun t _ => l.length - (intOf t).toNat)
  case atStart => exact ⟨0, _, Nat.zero_le _, by omega, rfl, HG1.out, B2.out⟩
  case round =>
    obtain ⟨k, lg, hk, hk10, rfl, hG, hB⟩ := hrel
    have HG := Lib.hid hG
    have HB := Lib.hid hB
    have hwr := hB.size
    clear hG
    by_cases hgo : k < l.length ∧ k < 10
    · obtain ⟨hlt, hlt10⟩ := hgo
      obtain ⟨bA, off, rfl, hbl, hcl⟩ := bytes_at He.out (by omega)
      obtain ⟨x, hx⟩ : ∃ x, l[k]? = some x := ⟨_, List.getElem?_eq_getElem hlt⟩
      obtain ⟨x0, x1⟩ := Hq.out x (List.mem_of_getElem? hx)
      have cx := old_cell hB (hcl k x hx)
      clear hcl hx hB
      go_wp2_with fail
      refine (carve_any _ p1 80 480 lg q1 _ _ HG.out).mono ?_
      rintro r w4 ⟨rfl, hG, hk⟩
      have HG4 := Lib.hid hG
      have HB4 := Lib.hid (Keep.under HB.out hk hwr (fun i hi => Nat.le_trans z1 (HG.out.blocks i hi)))
      clear hG hk
      go_wp2
      go_roundw
      case rel => exact ⟨k + 1, _, by omega, by omega, by go_num, HG4.out, HB4.out⟩
      case measure => simp [intOf]; omega
    · have hex : ¬ k < l.length ∨ (k < l.length ∧ ¬ k < 10) := by omega
      have hlg := HG.out.size
      have hpw := HG.out.lt.1
      clear hB hgo
      rcases hex with h1 | ⟨h1, h2⟩
      all_goals
        go_wp2_with fail
        refine (free_any _ p1 80 480 lg q1 _ (HG.out.below ((Below.refl _ _).alloc (Nat.le_refl _) _))).mono ?_
        rintro r w5 ⟨v, rfl, A5, c5, rfl, hc5, hcs5, _, hb⟩
        have HG5 := Lib.hid ((HG.out.below ((Below.refl wr.heap.size wr).alloc (Nat.le_refl _) (.cells #[] 40))).below hb)
        have HB5 := Lib.hid (below_only (HB.out.alloc hwr (.cells #[] 40)) hb)
        have ho5 := own_below (own_empty (e := 40) (size := 2) (Nat.le_refl wr.heap.size) (row_new wr #[] 40)) hb
        have z5 := hb.size
        have z5' : wr.heap.size ≤ w5.heap.size := by simp at z5; omega
        have Ho5 := Lib.hid ho5
        have Hc5 := Lib.hid hcs5
        clear hb ho5 hcs5 z5
        go_wp2_with (at_builtin; refine wpList_append_any _ rfl (.tmp 55) (.tmp 57) _ (by rfl) wr.heap.size 40 i0 _ 2 16 Try.underlying36 hi0 hz0 hz1 hz2 rfl (by omega) (.slice (some ⟨wr.heap.size, 0, none⟩) 0 0) 0 [] (by rfl) Ho5.out A5 lg.length c5 (lg.flatMap extCells) (by rfl) (exts_len lg) Hc5.out (exts_one lg) (by simp only [maxLen]; omega) (by omega) z5' ?_; intro v6 w6 hown6 hg6 hat6; simp only [Nat.zero_add, List.nil_append] at hown6; obtain ⟨A6, c6, rfl, hc6, -, hcs6⟩ := own_slice hown6; have hA6 := own_ge hown6; have HA6 := Lib.hid (show ∀ a, A6 = some a → wr.heap.size ≤ a.block from fun a ha => hA6 a.block (by rw [ha]; rfl)); have HB6 := Lib.hid (HB5.out.grown hg6 (Nat.le_trans hwr z5') (fun i hi => Nat.le_trans hwr (own_ge Ho5.out i hi))); have HG6 := Lib.hid (HG5.out.upto ((Below.refl wr.heap.size w5).grown hg6 z5' (own_ge Ho5.out)) hpw (fun i hi => (HG.out.lt.2 i hi).1)); have Hc6 := Lib.hid hcs6; have z6 := hg6.size; clear hown6 hg6 hat6 hcs6 hA6)
        have HF := Lib.hid (show giveF 80 480 a n lg = (1, lg) from give_no (.inl (by unfold giveBad; simp only [Bool.or_eq_true, decide_eq_true_eq]; omega)))
        have b0 : decide (0 < n) = true := decide_eq_true (by omega)
        have b0' : decide (n > 0) = true := decide_eq_true (by omega)
        have b1 : ((n.tmod 8 : Int) == 0) = true := by rw [(tmod8 n).2 (by omega)]; rfl
        have b1' : ((n % 8 : Int) == 0) = true := by rw [show (n % 8 : Int) = 0 by omega]; rfl
        have b2 : ((a.tmod 8 : Int) == 0) = true := by rw [(tmod8 a).2 (by omega)]; rfl
        have b2' : ((a % 8 : Int) == 0) = true := by rw [show (a % 8 : Int) = 0 by omega]; rfl
        have b3 : decide (80 ≤ a) = true := decide_eq_true (by omega)
        have b3' : decide (a ≥ 80) = true := decide_eq_true (by omega)
        have b4 : decide (a < 480) = false := decide_eq_false (by omega)
        have C0 := Lib.hid (And.intro c0 c1)
        clear c1 c2
        obtain ⟨rc, HR1⟩ : ∃ rc, Hid ((giveF 80 480 a n lg).1 = rc) := ⟨_, rfl⟩
        obtain ⟨L, HR2⟩ : ∃ L, Hid ((giveF 80 480 a n lg).2 = L) := ⟨_, rfl⟩
        refine (give_any _ p1 80 480 lg q1 a n _ HG6.out ⟨a0, a1⟩).mono ?_
        rintro r w7 ⟨rfl, ⟨q7, hG, hq7⟩, hk⟩
        rw [HR1.out]
        rw [HR2.out] at hG
        have HG7 := Lib.hid hG
        have HB7 := Lib.hid (Keep.under HB6.out (keep_more q1 hk) HB6.out.size (fun i hi => Nat.le_trans z1 (HG6.out.blocks i hi)))
        have Hc7 := Lib.hid (Hc6.out.kept hk (fun ad had => by have := HA6.out ad had; simp; omega))
        clear hG hq7 hk
        go_wp2_with fail
        refine (free_any _ p1 80 480 L q7 _ HG7.out).mono ?_
        rintro r w8 ⟨v, rfl, A8, c8, rfl, hc8, hcs8, _, hb⟩
        have HB8 := Lib.hid (below_only HB7.out hb)
        have Hc8 := Lib.hid hcs8
        have Hc9 := Lib.hid (Hc7.out.below hb)
        have hL := HG7.out.size
        have HCan := Lib.hid HG.out.can
        have HCanL := Lib.hid HG7.out.can
        clear hb hcs8
        go_wp2
        go_loopw [14, 15, 16] (fun m mo t w9 => ∃ k nq : Nat, k ≤ lg.length ∧ t = .int .i64 k ∧ mo = .int .i64 (-(total (lg.take k))) ∧ m = .bool false ∧ w9 = w8.drewN nq) (fun _ _ t _ => lg.length - (intOf t).toNat)
        case atStart => exact ⟨0, 0, Nat.zero_le _, rfl, rfl, rfl, rfl⟩
        case round =>
          obtain ⟨k, nq, hk, rfl, rfl, rfl, rfl⟩ := hrel
          by_cases hlt : k < lg.length
          · obtain ⟨bh, oh, rfl, hbh, hch⟩ := exts_at Hc9.out (by omega)
            obtain ⟨x, hx⟩ : ∃ x, lg[k]? = some x := ⟨_, List.getElem?_eq_getElem hlt⟩
            obtain ⟨x0, x1⟩ := hch k x hx
            obtain ⟨T, HT⟩ : ∃ T, Hid (total (lg.take k) = T) := ⟨_, rfl⟩
            have hTx := total_take hx
            have hsp : Canon 80 480 (lg.take k ++ lg.drop k) := by rw [List.take_append_drop]; exact HCan.out
            have hT0 := total_nonneg hsp.split.1
            have hT1 := total_le hsp.split.1 (by omega)
            rw [HT.out] at hTx hT0 hT1
            have hm := HCan.out.mem (List.mem_of_getElem? hx)
            obtain ⟨m1, m2, -, -, m5⟩ := hm
            have s1 : -9223372036854775808 ≤ -T - x.2 := by omega
            have s2 : -T - x.2 ≤ 9223372036854775807 := by omega
            have HTx := Lib.hid (show -T - x.2 = -(total (lg.take (k + 1))) by rw [hTx]; omega)
            have Hx := Lib.hid hx
            clear hx hch hTx hsp
            rw [HT.out]
            go_wp2
            go_quiet (fail)
            go_wp2
            go_roundw
            case rel => exact ⟨k + 1, _, hlt, by go_num, by rw [HTx.out], rfl, rfl⟩
            case measure => simp [intOf]; omega
          · obtain rfl : rc = 1 := by rw [← HR1.out, HF.out]
            obtain rfl : lg = L := by rw [← HR2.out, HF.out]
            go_wp2_with fail
            refine (same_any A6 A8 c6 c8 lg lg _ (by omega) (by omega) (Cells.drewN Hc9.out nq) (Cells.drewN Hc8.out nq)).mono ?_
            rintro r w9 ⟨rfl, hb⟩
            have HB9 := Lib.hid (below_only (below_drewN HB8.out nq) hb)
            have hs : decide (lg = lg) = true := decide_eq_true rfl
            rw [hs]
            clear hb
            go_wp2_with fail
            go_ret
            exact ⟨rfl, HB9.out⟩


set_option maxRecDepth 100000 in
set_option maxHeartbeats 4000000 in
theorem gives_bad5 (A : Option Addr) (c : Nat) (l : List Int) (a n : Int) (w : World) (he : Cells w A (l.flatMap byteCells)) (hq : ∀ e ∈ l, ByteOk e)
    (ha : (Lit.int .i64 a).wf = true) (hn : (Lit.int .i64 n).wf = true) (c0 : 0 < n) (c1 : n % 8 = 0) (c2 : a % 8 = 0) (c3 : 80 ≤ a) (c4 : a < 480) (c5 : ¬ (n ≤ 480 - a)) :
    Calls Try.prog 7 #[.slice A l.length c, .int .i64 a, .int .i64 n] w fun e w' => e = .returned (.bool true) ∧ Below w.heap.size w w' := by
  obtain ⟨a0, a1⟩ := wf_int ha
  obtain ⟨n0, n1⟩ := wf_int hn
  have Hq := Lib.hid hq
  have He := Lib.hid he
  clear ha hn hq he
  obtain ⟨i0, hi0, hz0, hz1, hz2⟩ := info_parts infoExt
  go_enter Try.func7, Try.ntmps7
  go_wp2_with fail
  refine (shown_any _).mono ?_
  rintro r w1 ⟨rfl, hb1⟩
  go_wp2_with fail
  refine (new_good 80 400 _ (by rfl)).mono ?_
  rintro r w2 ⟨p1, q1, rfl, hG1, hb2⟩
  have HG1 := Lib.hid (show Gr w1.heap.size w2 p1 80 480 [(80, 400)] q1 from hG1)
  have B2 := Lib.hid (below_only hb1 hb2)
  have z1 := hb1.size
  have z2 := hb2.size
  clear hb1 hb2 hG1
  go_wp2
  go_loopw [10] (fun t wr => GivesRel1 w w1.heap.size p1 q1 l.length t wr) (fun t _ => l.length - (intOf t).toNat)
  case atStart => exact ⟨0, _, Nat.zero_le _, by omega, rfl, HG1.out, B2.out⟩
  case round =>
    obtain ⟨k, lg, hk, hk10, rfl, hG, hB⟩ := hrel
    have HG := Lib.hid hG
    have HB := Lib.hid hB
    have hwr := hB.size
    clear hG
    by_cases hgo : k < l.length ∧ k < 10
    · obtain ⟨hlt, hlt10⟩ := hgo
      obtain ⟨bA, off, rfl, hbl, hcl⟩ := bytes_at He.out (by omega)
      obtain ⟨x, hx⟩ : ∃ x, l[k]? = some x := ⟨_, List.getElem?_eq_getElem hlt⟩
      obtain ⟨x0, x1⟩ := Hq.out x (List.mem_of_getElem? hx)
      have cx := old_cell hB (hcl k x hx)
      clear hcl hx hB
      go_wp2_with fail
      refine (carve_any _ p1 80 480 lg q1 _ _ HG.out).mono ?_
      rintro r w4 ⟨rfl, hG, hk⟩
      have HG4 := Lib.hid hG
      have HB4 := Lib.hid (Keep.under HB.out hk hwr (fun i hi => Nat.le_trans z1 (HG.out.blocks i hi)))
      clear hG hk
      go_wp2
      go_roundw
      case rel => exact ⟨k + 1, _, by omega, by omega, by go_num, HG4.out, HB4.out⟩
      case measure => simp [intOf]; omega
    · have hex : ¬ k < l.length ∨ (k < l.length ∧ ¬ k < 10) := by omega
      have hlg := HG.out.size
      have hpw := HG.out.lt.1
      clear hB hgo
      rcases hex with h1 | ⟨h1, h2⟩
      all_goals
        go_wp2_with fail
        refine (free_any _ p1 80 480 lg q1 _ (HG.out.below ((Below.refl _ _).alloc (Nat.le_refl _) _))).mono ?_
        rintro r w5 ⟨v, rfl, A5, c5, rfl, hc5, hcs5, _, hb⟩
        have HG5 := Lib.hid ((HG.out.below ((Below.refl wr.heap.size wr).alloc (Nat.le_refl _) (.cells #[] 40))).below hb)
        have HB5 := Lib.hid (below_only (HB.out.alloc hwr (.cells #[] 40)) hb)
        have ho5 := own_below (own_empty (e := 40) (size := 2) (Nat.le_refl wr.heap.size) (row_new wr #[] 40)) hb
        have z5 := hb.size
        have z5' : wr.heap.size ≤ w5.heap.size := by simp at z5; omega
        have Ho5 := Lib.hid ho5
        have Hc5 := Lib.hid hcs5
        clear hb ho5 hcs5 z5
        go_wp2_with (at_builtin; refine wpList_append_any _ rfl (.tmp 55) (.tmp 57) _ (by rfl) wr.heap.size 40 i0 _ 2 16 Try.underlying36 hi0 hz0 hz1 hz2 rfl (by omega) (.slice (some ⟨wr.heap.size, 0, none⟩) 0 0) 0 [] (by rfl) Ho5.out A5 lg.length c5 (lg.flatMap extCells) (by rfl) (exts_len lg) Hc5.out (exts_one lg) (by simp only [maxLen]; omega) (by omega) z5' ?_; intro v6 w6 hown6 hg6 hat6; simp only [Nat.zero_add, List.nil_append] at hown6; obtain ⟨A6, c6, rfl, hc6, -, hcs6⟩ := own_slice hown6; have hA6 := own_ge hown6; have HA6 := Lib.hid (show ∀ a, A6 = some a → wr.heap.size ≤ a.block from fun a ha => hA6 a.block (by rw [ha]; rfl)); have HB6 := Lib.hid (HB5.out.grown hg6 (Nat.le_trans hwr z5') (fun i hi => Nat.le_trans hwr (own_ge Ho5.out i hi))); have HG6 := Lib.hid (HG5.out.upto ((Below.refl wr.heap.size w5).grown hg6 z5' (own_ge Ho5.out)) hpw (fun i hi => (HG.out.lt.2 i hi).1)); have Hc6 := Lib.hid hcs6; have z6 := hg6.size; clear hown6 hg6 hat6 hcs6 hA6)
        have HF := Lib.hid (show giveF 80 480 a n lg = (1, lg) from give_no (.inl (by unfold giveBad; simp only [Bool.or_eq_true, decide_eq_true_eq]; omega)))
        have b0 : decide (0 < n) = true := decide_eq_true (by omega)
        have b0' : decide (n > 0) = true := decide_eq_true (by omega)
        have b1 : ((n.tmod 8 : Int) == 0) = true := by rw [(tmod8 n).2 (by omega)]; rfl
        have b1' : ((n % 8 : Int) == 0) = true := by rw [show (n % 8 : Int) = 0 by omega]; rfl
        have b2 : ((a.tmod 8 : Int) == 0) = true := by rw [(tmod8 a).2 (by omega)]; rfl
        have b2' : ((a % 8 : Int) == 0) = true := by rw [show (a % 8 : Int) = 0 by omega]; rfl
        have b3 : decide (80 ≤ a) = true := decide_eq_true (by omega)
        have b3' : decide (a ≥ 80) = true := decide_eq_true (by omega)
        have b4 : decide (a < 480) = true := decide_eq_true (by omega)
        have b5 : decide (n ≤ 480 - a) = false := decide_eq_false (by omega)
        have C0 := Lib.hid (And.intro c0 c1)
        clear c1 c2
        obtain ⟨rc, HR1⟩ : ∃ rc, Hid ((giveF 80 480 a n lg).1 = rc) := ⟨_, rfl⟩
        obtain ⟨L, HR2⟩ : ∃ L, Hid ((giveF 80 480 a n lg).2 = L) := ⟨_, rfl⟩
        refine (give_any _ p1 80 480 lg q1 a n _ HG6.out ⟨a0, a1⟩).mono ?_
        rintro r w7 ⟨rfl, ⟨q7, hG, hq7⟩, hk⟩
        rw [HR1.out]
        rw [HR2.out] at hG
        have HG7 := Lib.hid hG
        have HB7 := Lib.hid (Keep.under HB6.out (keep_more q1 hk) HB6.out.size (fun i hi => Nat.le_trans z1 (HG6.out.blocks i hi)))
        have Hc7 := Lib.hid (Hc6.out.kept hk (fun ad had => by have := HA6.out ad had; simp; omega))
        clear hG hq7 hk
        go_wp2_with fail
        refine (free_any _ p1 80 480 L q7 _ HG7.out).mono ?_
        rintro r w8 ⟨v, rfl, A8, c8, rfl, hc8, hcs8, _, hb⟩
        have HB8 := Lib.hid (below_only HB7.out hb)
        have Hc8 := Lib.hid hcs8
        have Hc9 := Lib.hid (Hc7.out.below hb)
        have hL := HG7.out.size
        have HCan := Lib.hid HG.out.can
        have HCanL := Lib.hid HG7.out.can
        clear hb hcs8
        go_wp2
        go_loopw [14, 15, 16] (fun m mo t w9 => ∃ k nq : Nat, k ≤ lg.length ∧ t = .int .i64 k ∧ mo = .int .i64 (-(total (lg.take k))) ∧ m = .bool false ∧ w9 = w8.drewN nq) (fun _ _ t _ => lg.length - (intOf t).toNat)
        case atStart => exact ⟨0, 0, Nat.zero_le _, rfl, rfl, rfl, rfl⟩
        case round =>
          obtain ⟨k, nq, hk, rfl, rfl, rfl, rfl⟩ := hrel
          by_cases hlt : k < lg.length
          · obtain ⟨bh, oh, rfl, hbh, hch⟩ := exts_at Hc9.out (by omega)
            obtain ⟨x, hx⟩ : ∃ x, lg[k]? = some x := ⟨_, List.getElem?_eq_getElem hlt⟩
            obtain ⟨x0, x1⟩ := hch k x hx
            obtain ⟨T, HT⟩ : ∃ T, Hid (total (lg.take k) = T) := ⟨_, rfl⟩
            have hTx := total_take hx
            have hsp : Canon 80 480 (lg.take k ++ lg.drop k) := by rw [List.take_append_drop]; exact HCan.out
            have hT0 := total_nonneg hsp.split.1
            have hT1 := total_le hsp.split.1 (by omega)
            rw [HT.out] at hTx hT0 hT1
            have hm := HCan.out.mem (List.mem_of_getElem? hx)
            obtain ⟨m1, m2, -, -, m5⟩ := hm
            have s1 : -9223372036854775808 ≤ -T - x.2 := by omega
            have s2 : -T - x.2 ≤ 9223372036854775807 := by omega
            have HTx := Lib.hid (show -T - x.2 = -(total (lg.take (k + 1))) by rw [hTx]; omega)
            have Hx := Lib.hid hx
            clear hx hch hTx hsp
            rw [HT.out]
            go_wp2
            go_quiet (fail)
            go_wp2
            go_roundw
            case rel => exact ⟨k + 1, _, hlt, by go_num, by rw [HTx.out], rfl, rfl⟩
            case measure => simp [intOf]; omega
          · obtain rfl : rc = 1 := by rw [← HR1.out, HF.out]
            obtain rfl : lg = L := by rw [← HR2.out, HF.out]
            go_wp2_with fail
            refine (same_any A6 A8 c6 c8 lg lg _ (by omega) (by omega) (Cells.drewN Hc9.out nq) (Cells.drewN Hc8.out nq)).mono ?_
            rintro r w9 ⟨rfl, hb⟩
            have HB9 := Lib.hid (below_only (below_drewN HB8.out nq) hb)
            have hs : decide (lg = lg) = true := decide_eq_true rfl
            rw [hs]
            clear hb
            go_wp2_with fail
            go_ret
            exact ⟨rfl, HB9.out⟩


end Go.Proofs.Ytpkohmbdmbkcbaa
