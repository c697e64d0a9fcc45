/- The law GroundTurns's walk. -/
import Derived.Test.YtpkohmbdmbkcbaaGroundTwo
namespace Go.Proofs.Ytpkohmbdmbkcbaa
open Go.RowKit

def TurnRel (w : World) (B0 Bh p1 p2 : Nat) (q1 q2 : Option Nat) (n : Nat) (hv t : Value) (wr : World) : Prop :=
  ∃ (k : Nat) (H lg : List Ext) (Ah : Option Addr) (ch : Nat), k ≤ n ∧ k ≤ 10 ∧ t = .int .i64 k ∧ hv = .slice Ah H.length ch ∧ H.length ≤ k ∧
    wr.ownsRow Bh 40 2 (.slice Ah H.length ch) H.length (H.flatMap extCells) ∧ TwoG B0 wr 80 480 p1 p2 q1 q2 lg lg ∧ Held 80 480 lg H ∧ Below w.heap.size w wr ∧ Bh ≤ wr.heap.size

def TurnRel2 (w : World) (B0 p1 p2 : Nat) (H lg : List Ext) (s : Nat → Nat) (Ah : Option Addr) (t : Value) (wr : World) : Prop :=
  ∃ (i : Nat) (lgi mgi : List Ext) (q1 q2 : Option Nat), i ≤ H.length ∧ t = .int .i64 i ∧ TwoG B0 wr 80 480 p1 p2 q1 q2 lgi mgi ∧ Given 80 480 lg H id i lgi ∧ Given 80 480 lg H s i mgi ∧
    Below w.heap.size w wr ∧ Cells wr Ah (H.flatMap extCells)
def turnAt (m fr i : Nat) : Nat := (m - 1 - i + fr) % m

set_option maxRecDepth 100000 in
set_option maxHeartbeats 2000000 in
theorem groundTurns_walk (A : Option Addr) (c : Nat) (l : List Int) (wh fr : Int) (w : World) (_ : l.length ≤ c) (_ : c ≤ maxLen) (he : Cells w A (l.flatMap byteCells)) (hq : ∀ e ∈ l, ByteOk e)
    (hw : (Lit.int .u16 wh).wf = true) (hf : (Lit.int .u8 fr).wf = true) :
    Calls Try.prog 8 #[.slice A l.length c, .int .u16 wh, .int .u8 fr] w fun e w' => e = .returned (.bool true) ∧ Below w.heap.size w w' := by
  obtain ⟨w0, w1⟩ := wf_u16 hw
  obtain ⟨f0, f1⟩ := wf_u8 hf
  have Hq := Lib.hid hq
  have He := Lib.hid he
  clear hw hf hq he
  obtain ⟨i0, hi0, hz0, hz1, hz2⟩ := info_parts infoExt
  go_enter Try.func8, Try.ntmps8
  go_wp2_with fail
  refine (shown_any _).mono ?_
  rintro r w1 ⟨rfl, hb1⟩
  go_wp2_with fail
  refine (new_good 80 400 _ (by rfl)).mono ?_
  rintro r w2 ⟨p1, q1, rfl, hG1, hb2⟩
  have HG1 := Lib.hid (show Gr w1.heap.size w2 p1 80 480 [(80, 400)] q1 from hG1)
  have B2 := below_only hb1 hb2
  have z1 := hb1.size
  have z2 := hb2.size
  clear hb1 hb2 hG1
  go_wp2_with fail
  refine (new_good 80 400 _ (by rfl)).mono ?_
  rintro r w3 ⟨p2, q2, rfl, hG2, hb3⟩
  have hT := two_of HG1.out (show Gr w2.heap.size w3 p2 80 480 [(80, 400)] q2 from hG2) hb3 z2
  have B3 := below_only B2 hb3
  have z3 := B3.size
  have Hq1 := Lib.hid hT.g1.lt
  have Hq2 := Lib.hid hT.g2.lt
  have HT := Lib.hid hT
  have HB3 := Lib.hid B3
  clear hG2 hb3 HG1 B2 hT B3
  go_wp2
  go_loopw [12, 13] (fun hv t wr => TurnRel w w1.heap.size w3.heap.size p1 p2 q1 q2 l.length hv t wr) (fun _ t _ => l.length - (intOf t).toNat)
  case atStart =>
    exact ⟨0, [], [(80, 400)], some ⟨w3.heap.size, 0, none⟩, 0, Nat.zero_le _, by omega, rfl, rfl, Nat.le_refl _, own_empty (Nat.le_refl _) (row_new _ _ _), HT.out.below ((Below.refl _ _).alloc (Nat.le_refl _) _), Held.nil _ _ _, HB3.out.alloc z3 _, by simp⟩
  case round =>
    obtain ⟨k, H, lg, Ah, ch, hk, hk10, rfl, rfl, hHk, hown, hT, hH, hB, hBh⟩ := hrel
    have HT := Lib.hid hT
    have Hown := Lib.hid hown
    have HH := Lib.hid hH
    have HB := Lib.hid hB
    have hwr := hB.size
    clear hown hT hH
    by_cases hgo : k < l.length ∧ k < 10
    · obtain ⟨hlt, hlt10⟩ := hgo
      obtain ⟨bA, off, rfl, hbl, hcl⟩ := bytes_at He.out (by omega)
      obtain ⟨x, hx⟩ : ∃ x, l[k]? = some x := ⟨_, List.getElem?_eq_getElem hlt⟩
      obtain ⟨x0, x1⟩ := Hq.out x (List.mem_of_getElem? hx)
      have cx := old_cell hB (hcl k x hx)
      clear hcl hx hB
      go_wp2_with fail
      obtain ⟨n, Hn⟩ : ∃ n, Hid (8 * (1 + x % 12) = n) := ⟨_, rfl⟩
      have n0 : 8 ≤ n := by rw [← Hn.out]; omega
      have n1 : n ≤ 96 := by rw [← Hn.out]; omega
      rw [Hn.out]
      obtain ⟨a, HC1⟩ : ∃ a, Hid ((carveF n lg).1 = a) := ⟨_, rfl⟩
      obtain ⟨ok, HC2⟩ : ∃ ok, Hid ((carveF n lg).2.1 = ok) := ⟨_, rfl⟩
      obtain ⟨lg', HC3⟩ : ∃ lg', Hid ((carveF n lg).2.2 = lg') := ⟨_, rfl⟩
      refine (carve_any _ p1 80 480 lg q1 _ _ HT.out.g1).mono ?_
      rintro r w4 ⟨rfl, hG, hk⟩
      rw [HC3.out] at hG
      rw [HC1.out, HC2.out]
      have HT4 := Lib.hid (HT.out.carve1 hG hk)
      have HB4 := Lib.hid (HT.out.under1 HB.out (by omega) hk)
      have Hown4 := Lib.hid (own_kept Hown.out hk (fun i hi hm => by
        have h1 := own_ge Hown.out i hi
        rcases List.mem_cons.1 hm with rfl | hm
        · exact absurd Hq1.out.1 (by omega)
        · exact absurd (Hq1.out.2 i (by simpa using hm)).1 (by omega)))
      have z4 := hk.size
      clear hG hk
      go_wp2_with fail
      refine (carve_any _ p2 80 480 lg q2 _ _ HT4.out.g2).mono ?_
      rintro r w5 ⟨rfl, hG, hk⟩
      rw [HC3.out] at hG
      rw [HC1.out, HC2.out]
      have HT5 := Lib.hid (HT4.out.carve2 hG hk)
      have HB5 := Lib.hid (HT4.out.under2 HB4.out (by omega) hk)
      have Hown5 := Lib.hid (own_kept Hown4.out hk (fun i hi hm => by
        have h1 := own_ge Hown4.out i hi
        rcases List.mem_cons.1 hm with rfl | hm
        · exact absurd Hq2.out.1 (by omega)
        · exact absurd (Hq2.out.2 i (by simpa using hm)).1 (by omega)))
      have z5 := hk.size
      have Hk5 := Lib.hid (show Held 80 480 lg' H by rw [← HC3.out]; exact HH.out.keep HT.out.g1.can)
      clear hG hk cx
      have hHl : H.length ≤ 10 := by omega
      have m0 : (bits .and .u16 (wh / 2 ^ k) 1 == 1) = true ∨ (bits .and .u16 (wh / 2 ^ k) 1 == 1) = false := by cases (bits .and .u16 (wh / 2 ^ k) 1 == 1) <;> simp
      cases ok with
      | true =>
        have hne : ((a : Int) != a) = false := by simp
        rcases m0 with m0 | m0
        · go_wp2_with (at_builtin; refine wpList_append_any _ rfl (.tmp 96) (.tmp 100) _ (by rfl) w3.heap.size 40 i0 _ 2 16 Try.underlying36 hi0 hz0 hz1 hz2 rfl (by omega) (.slice Ah H.length ch) H.length (H.flatMap extCells) (by rfl) (own_below Hown5.out (by go_grown)) (some ⟨w5.heap.size, 0, none⟩) 1 1 (extCells (a, n)) (by rfl) rfl (cells_two (by simp [go_sem]) (by simp [go_sem])) (extCells_one _) (by simp only [maxLen]; omega) (by omega) (by simp; omega) ?_; intro v6 w6 hown6 hg6 hat6)
          have B6 := Lib.hid (Below.grown (HB5.out.alloc (by omega) (.cells #[.int .i64 a, .int .i64 n] 40)) hg6 (by simp; omega) (fun i hi => by have := own_ge Hown5.out i hi; omega))
          have B6' := Lib.hid (Below.grown ((Below.refl w3.heap.size w5).alloc (by omega) (.cells #[.int .i64 a, .int .i64 n] 40)) hg6 (by simp; omega) (own_ge Hown5.out))
          go_roundw
          case rel =>
            obtain ⟨A6, c6, rfl, -, -, -⟩ := own_slice hown6
            refine ⟨k + 1, H ++ [(a, n)], lg', A6, c6, by omega, by omega, by go_num, by rw [List.length_append, List.length_singleton], by rw [List.length_append, List.length_singleton]; omega, ?_, ?_, ?_, B6.out, by have := B6'.out.size; omega⟩
            · rw [List.length_append, List.length_singleton, List.flatMap_append]
              simpa using hown6
            · exact HT5.out.upto B6'.out Hq1.out.1 (fun i hi => (Hq1.out.2 i hi).1) Hq2.out.1 (fun i hi => (Hq2.out.2 i hi).1)
            · have := HH.out.more (n := n) HT.out.g1.can HC2.out
              rw [HC1.out, HC3.out] at this
              exact this
          case measure => simp [intOf]; omega
        · go_wp2
          go_roundw
          case rel => exact ⟨k + 1, H, lg', Ah, ch, by omega, by omega, by go_num, rfl, by omega, Hown5.out, HT5.out, Hk5.out, HB5.out, by omega⟩
          case measure => simp [intOf]; omega
      | false =>
        have hne : ((a : Int) != a) = false := by simp
        go_wp2
        go_roundw
        case rel => exact ⟨k + 1, H, lg', Ah, ch, by omega, by omega, by go_num, rfl, by omega, Hown5.out, HT5.out, Hk5.out, HB5.out, by omega⟩
        case measure => simp [intOf]; omega
    · have hex : ¬ k < l.length ∨ (k < l.length ∧ ¬ k < 10) := by omega
      have hm : H.length ≤ 10 := by omega
      have hAh : ∀ a, Ah = some a → w3.heap.size ≤ a.block := by
        intro a ha
        subst ha
        exact own_ge Hown.out a.block rfl
      have hCh := Cells.of_own Hown.out
      have HCh := Lib.hid hCh
      have HAh := Lib.hid hAh
      obtain ⟨F, rfl⟩ : ∃ F : Nat, fr = F := ⟨fr.toNat, by omega⟩
      clear hB hCh hAh Hown hgo
      rcases hex with h1 | ⟨h1, h2⟩
      all_goals
        go_wp2
        go_loopw [19] (fun t wr2 => TurnRel2 w w1.heap.size p1 p2 H lg (turnAt H.length F) Ah t wr2) (fun t _ => H.length - (intOf t).toNat)
        case atStart => exact ⟨0, lg, lg, q1, q2, Nat.zero_le _, rfl, HT.out, Given.zero _ _ HT.out.g1.can, Given.zero _ _ HT.out.g1.can, HB.out, HCh.out⟩
        case round =>
          obtain ⟨i, lgi, mgi, q1', q2', hi, rfl, hT, hG1, hG2, hB, hC⟩ := hrel
          have HTi := Lib.hid hT
          have HG1 := Lib.hid hG1
          have HG2 := Lib.hid hG2
          have HBi := Lib.hid hB
          have HCi := Lib.hid hC
          clear hT hG1 hG2 hB hC
          by_cases hil : i < H.length
          · obtain ⟨bh, oh, rfl, hbh, hch⟩ := exts_at HCi.out (by omega)
            obtain ⟨x, hx⟩ : ∃ x, H[i]? = some x := ⟨_, List.getElem?_eq_getElem hil⟩
            obtain ⟨si, Hsi⟩ : ∃ si, Hid (turnAt H.length F i = si) := ⟨_, rfl⟩
            have hsi : si < H.length := by rw [← Hsi.out]; exact Nat.mod_lt _ (by omega)
            obtain ⟨y, hy⟩ : ∃ y, H[si]? = some y := ⟨_, List.getElem?_eq_getElem hsi⟩
            obtain ⟨x0, x1⟩ := hch i x hx
            obtain ⟨y0, y1⟩ := hch si y hy
            have e1 : ((H.length : Int) - 1 - (i : Int) + (F : Int)) % (H.length : Int) = (si : Int) := by
              rw [← Hsi.out, turnAt, show (H.length : Int) - 1 - (i : Int) + (F : Int) = ((H.length - 1 - i + F : Nat) : Int) by omega]
              rfl
            have e2 : 0 ≤ (H.length : Int) - 1 - (i : Int) + (F : Int) := by omega
            have e3 : ((H.length : Int) - 1 - (i : Int) + (F : Int)).tmod (H.length : Int) = (si : Int) := by
              rw [Int.tmod_eq_emod_of_nonneg e2]
              exact e1
            have e4 : (H.length : Int) ≠ 0 := by omega
            have e5 : (si : Int) < (H.length : Int) := by omega
            have Hx := Lib.hid hx
            have Hy := Lib.hid hy
            clear hx hy hch
            go_wp2_with fail
            obtain ⟨L1, HL1⟩ : ∃ L1, Hid (joins (giveAll x.1 x.2 lgi) = L1) := ⟨_, rfl⟩
            obtain ⟨L2, HL2⟩ : ∃ L2, Hid (joins (giveAll y.1 y.2 mgi) = L2) := ⟨_, rfl⟩
            obtain ⟨g1, hg1⟩ := HG1.out.next HH.out (fun k hk => by simp; omega) (x := x) Hx.out
            obtain ⟨g2, hg2⟩ := HG2.out.next HH.out (fun k hk he => by
              have h3 : H.length - 1 - k + F = (H.length - 1 - i + F) + (i - k) := by omega
              rw [turnAt, turnAt, h3] at he
              exact mod_ne (by omega) (by omega) he) (x := y) (by rw [Hsi.out]; exact Hy.out)
            rw [HL1.out] at g1 hg1
            rw [HL2.out] at g2 hg2
            have Hg1 := Lib.hid g1
            have Hg2 := Lib.hid g2
            have Hn1 := Lib.hid hg1
            have Hn2 := Lib.hid hg2
            have fx := HH.out.fit x (List.mem_of_getElem? Hx.out)
            have fy := HH.out.fit y (List.mem_of_getElem? Hy.out)
            have Hfx := Lib.hid (show -9223372036854775808 ≤ x.1 ∧ x.1 ≤ 9223372036854775807 by have := fx.1; have := fx.2.1; have := fx.2.2.2.2; omega)
            have Hfy := Lib.hid (show -9223372036854775808 ≤ y.1 ∧ y.1 ≤ 9223372036854775807 by have := fy.1; have := fy.2.1; have := fy.2.2.2.2; omega)
            have Ry := Lib.hid (show (((wr.alloc (.cells #[.int .i64 x.1, .int .i64 x.2] 40)).alloc (.cells #[.int .i64 y.1, .int .i64 y.2] 40))).heap[wr.heap.size + 1]? = some (.cells #[.int .i64 y.1, .int .i64 y.2] 40 (0, 0)) from heap_at (by simp))
            have hT1 := HTi.out.below (show Below wr.heap.size wr ((wr.alloc (.cells #[.int .i64 x.1, .int .i64 x.2] 40)).alloc (.cells #[.int .i64 y.1, .int .i64 y.2] 40)) by go_grown)
            have hB1 : Below w.heap.size w ((wr.alloc (.cells #[.int .i64 x.1, .int .i64 x.2] 40)).alloc (.cells #[.int .i64 y.1, .int .i64 y.2] 40)) := below_only HBi.out (by go_grown)
            have hC1 := (HCi.out.alloc (.cells #[.int .i64 x.1, .int .i64 x.2] 40)).alloc (.cells #[.int .i64 y.1, .int .i64 y.2] 40)
            have hp1 := HTi.out.g1.lt.1
            have hp2 := HTi.out.g2.lt.1
            have hl1 := HTi.out.g1.low
            have hl2 := HTi.out.g2.low
            have hbp : bh ≠ p1 ∧ bh ≠ p2 := by
              have := Hq1.out.1
              have := Hq2.out.1
              have : w3.heap.size ≤ bh := HAh.out _ rfl
              omega
            clear g1 g2 hg1 hg2 fx fy x0 x1 y0 y1
            generalize (wr.alloc (.cells #[.int .i64 x.1, .int .i64 x.2] 40)).alloc (.cells #[.int .i64 y.1, .int .i64 y.2] 40) = w6 at *
            refine (give_any _ p1 80 480 lgi q1' x.1 x.2 _ hT1.g1 Hfx.out).mono ?_
            rintro r w7 ⟨rfl, ⟨q7, hG, hq7⟩, hk⟩
            rw [Hg1.out] at hG ⊢
            have HT7 := Lib.hid (hT1.give1 hG hq7 hk)
            have HB7 := Lib.hid (hT1.under1 hB1 (by omega) (keep_more q1' hk))
            have HC7 := Lib.hid (hC1.kept hk (fun a ha => by injection ha with ha; subst ha; simp; exact hbp.1))
            have hRy := hk.row Ry.out (by simp; omega)
            obtain ⟨y0, y1, -, -⟩ := box2 hRy
            clear hG hq7 hk hT1 hB1 hC1 hRy
            go_wp2_with fail
            refine (give_any _ p2 80 480 mgi q2' y.1 y.2 _ HT7.out.g2 Hfy.out).mono ?_
            rintro r w8 ⟨rfl, ⟨q8, hG, hq8⟩, hk⟩
            rw [Hg2.out] at hG ⊢
            have HT8 := Lib.hid (HT7.out.give2 hG hq8 hk)
            have HB8 := Lib.hid (HT7.out.under2 HB7.out (by omega) (keep_more q2' hk))
            have HC8 := Lib.hid (HC7.out.kept hk (fun a ha => by injection ha with ha; subst ha; simp; exact hbp.2))
            clear hG hq8 hk
            go_wp2_with fail
            go_roundw
            case rel => exact ⟨i + 1, L1, L2, q7, q8, by omega, by go_num, HT8.out, Hn1.out, Hn2.out, HB8.out, HC8.out⟩
            case measure => simp [intOf]; omega
          · obtain rfl : i = H.length := by omega
            have hlm : lgi = mgi := Given.all (fun k hk => ⟨k, hk, rfl⟩) (fun k hk => by
              obtain ⟨j, hj1, hj2⟩ := mod_hit (a := F) (n := H.length) (k := k) hk
              exact ⟨H.length - 1 - j, by omega, by rw [turnAt, show H.length - 1 - (H.length - 1 - j) + F = F + j by omega]; exact hj2⟩) HG1.out HG2.out
            subst hlm
            have hlg := HTi.out.g1.size
            go_wp2_with fail
            refine (free_any _ p1 80 480 lgi q1' _ HTi.out.g1).mono ?_
            rintro r w7 ⟨v, rfl, A7, c7, rfl, hc7, hcs7, _, hb⟩
            have HT7 := Lib.hid (HTi.out.below hb)
            have HB7 := Lib.hid (below_only HBi.out hb)
            clear hb
            go_wp2_with fail
            refine (free_any _ p2 80 480 lgi q2' _ HT7.out.g2).mono ?_
            rintro r w8 ⟨v, rfl, A8, c8, rfl, hc8, hcs8, _, hb⟩
            have HB8 := Lib.hid (below_only HB7.out hb)
            have hcs7' := Cells.below hcs7 hb
            clear hb hcs7
            go_wp2_with fail
            refine (same_any A7 A8 c7 c8 lgi lgi _ (by omega) (by omega) hcs7' hcs8).mono ?_
            rintro r w9 ⟨rfl, hb⟩
            have HB9 := Lib.hid (below_only HB8.out hb)
            have hs : decide (lgi = lgi) = true := decide_eq_true rfl
            rw [hs]
            clear hb hcs7' hcs8
            go_wp2_with fail
            go_ret
            exact ⟨rfl, HB9.out⟩

end Go.Proofs.Ytpkohmbdmbkcbaa
