/- The law GroundApart's walk. -/
import Derived.Test.YtpkohmbdmbkcbaaGroundApartPlain
import Derived.Test.YtpkohmbdmbkcbaaGroundRefA
import Derived.Test.YtpkohmbdmbkcbaaGroundTwo
import Derived.Deep.WholeRow
namespace Go.Proofs.Ytpkohmbdmbkcbaa
open Go.RowKit

theorem boolsT_cell {w : World} {q : Nat} {b : List Bool} {t : TypeId} (h : w.heap[q]? = some (.cells (boolsV b).toArray t (0, 0))) (k : Nat) (v : Bool) (hv : b[k]? = some v) : w.cell? ⟨q, k, none⟩ = some (.bool v) := by
  rw [row_cell h]
  simp [boolsV, hv]

def Z50 : Array Value := (boolsV (List.replicate 50 false)).toArray
theorem zero50 (w : World) : (zeroValue 43).run Try.prog w = .ok (.agg Z50) w := by kernel_rfl
theorem info50 : (Try.prog.info? 43).map (·.size) = some 50 := by kernel_rfl
theorem build50 (w : World) : (Instr.build 43 #[]).run Try.prog w = .ok (.agg Z50) w := by kernel_rfl
theorem alloc50 (w : World) : (Instr.alloc 43 true (.tuple #[])).run Try.prog w = .ok (.pointer (some ⟨w.heap.size, 0, none⟩)) (w.alloc (.cells Z50 43)) := by kernel_rfl
theorem size50 : Z50.size = 50 := by simp [Z50, boolsV]
theorem one50 : Z50.all (·.oneCell') = true := by kernel_rfl

theorem wpList_zero50 {w : World} {ops : Array Oper} {rest : List Oper} {o1 o2 o3 : Oper} {a : Act} {Q : Exit → Act → World → Prop} (x y : Tmp) (g1 : o1.guard = none) (g2 : o2.guard = none) (g3 : o3.guard = none)
    (h1 : o1.op = .build 43 #[]) (h2 : o2.op = .alloc 43) (h3 : o3.op = .store 43 (.tmp x) (.tmp y))
    (d3 : o3.dst = none)
    (e1 : ((a.put o1.dst (.agg Z50)).put o2.dst (.pointer (some ⟨w.heap.size, 0, none⟩))).eval (.tmp x) = .pointer (some ⟨w.heap.size, 0, none⟩))
    (e2 : ((a.put o1.dst (.agg Z50)).put o2.dst (.pointer (some ⟨w.heap.size, 0, none⟩))).eval (.tmp y) = .agg Z50)
    (h : wpList Try.prog ops Q rest ((a.put o1.dst (.agg Z50)).put o2.dst (.pointer (some ⟨w.heap.size, 0, none⟩))) (w.alloc (.cells Z50 43))) :
    wpList Try.prog ops Q (o1 :: o2 :: o3 :: rest) a w := by
  refine wpList_plain g1 fun K hK => ?_
  unfold Oper.wp execOp
  simp only [h1, Array.map_empty, build50, Sem.run_bind, Sem.run_pure, Result.andThen_ok]
  refine hK _ _ (wpList_plain g2 fun K hK => ?_)
  unfold Oper.wp execOp
  simp only [h2, alloc50, Sem.run_bind, Sem.run_pure, Result.andThen_ok]
  refine hK _ _ (wpList_plain g3 fun K hK => ?_)
  have hst := run_storeAt_new (P := Try.prog) w 43 Z50 Z50 (by rw [size50]; exact info50) rfl one50
  unfold Oper.wp execOp
  simp only [h3, e1, e2, hst, Sem.run_bind, Sem.run_pure, Result.andThen_ok]
  exact hK _ _ (by rw [d3]; exact h)

def ApartRel (w : World) (B0 p1 gu : Nat) (q1 : Option Nat) (Bh n : Nat) (hv t : Value) (wr : World) : Prop :=
  ∃ (k : Nat) (H lg : List Ext) (u : List Bool) (Ah : Option Addr) (ch : Nat), k ≤ n ∧ k ≤ 10 ∧ t = .int .i64 k ∧ hv = .slice Ah H.length ch ∧ H.length ≤ k ∧
    wr.ownsRow Bh 40 2 (.slice Ah H.length ch) H.length (H.flatMap extCells) ∧ (Value.slice Ah H.length ch).ownBlock ≠ some gu ∧ Gr B0 wr p1 80 480 lg q1 ∧
    wr.heap[gu]? = some (.cells (boolsV u).toArray 43 (0, 0)) ∧ Apart lg H u ∧ Below w.heap.size w wr ∧ Bh ≤ wr.heap.size
def apartAt (m fr i : Nat) : Nat := (i + fr) % m

set_option maxRecDepth 100000 in
set_option maxHeartbeats 8000000 in
theorem groundApart_walk (A : Option Addr) (c : Nat) (l : List Int) (fr : Int) (w : World) (_ : l.length ≤ c) (_ : c ≤ maxLen) (he : Cells w A (l.flatMap byteCells)) (hq : ∀ e ∈ l, ByteOk e) (hf : (Lit.int .u8 fr).wf = true) :
    Calls Try.prog 5 #[.slice A l.length c, .int .u8 fr] w fun e w' => e = .returned (.bool true) ∧ Below w.heap.size w w' := by
  obtain ⟨f0, f1⟩ := wf_u8 hf
  have Hq := Lib.hid hq
  have He := Lib.hid he
  clear hf hq he
  obtain ⟨i0, hi0, hz0, hz1, hz2⟩ := info_parts infoExt
  go_enter Try.func5, Try.ntmps5
  go_wp2_with fail
  refine (shown_any _).mono ?_
  rintro r w1 ⟨rfl, hb1⟩
  go_wp2_with fail
  refine (new_good 80 400 _ (by rfl)).mono ?_
  rintro r w2 ⟨p1, q1, rfl, hG1, hb2⟩
  have HG1 := Lib.hid (show Gr w1.heap.size w2 p1 80 480 [(80, 400)] q1 from hG1)
  have HB2 := Lib.hid (below_only hb1 hb2)
  have z1 := hb1.size
  have z2 := HB2.out.size
  have Hq1 := Lib.hid hG1.lt
  clear hb1 hb2 hG1
  go_wp2_with (refine wpList_zero50 9 40 rfl rfl rfl rfl rfl rfl rfl (by rfl) (by rfl) ?_)
  go_loopw [8, 10] (fun hv t wr => ApartRel w w1.heap.size p1 (w2.heap.size + 1) q1 w2.heap.size l.length hv t wr) (fun _ t _ => l.length - (intOf t).toNat)
  case atStart =>
    have hb : Below w2.heap.size w2 ((w2.alloc (.cells #[] 40)).alloc (.cells Z50 43)) := by go_grown
    exact ⟨0, [], [(80, 400)], List.replicate 50 false, some ⟨w2.heap.size, 0, none⟩, 0, Nat.zero_le _, by omega, rfl, rfl, Nat.le_refl _, own_empty (Nat.le_refl _) (row_alloc (row_new _ _ _)), by simp [Value.ownBlock], HG1.out.below hb,
      (show ((w2.alloc (.cells #[] 40)).alloc (.cells Z50 43)).heap[w2.heap.size + 1]? = some (.cells Z50 43 (0, 0)) from heap_at (by simp)), apart_init, below_only HB2.out hb, by simp; omega⟩
  case round =>
    obtain ⟨k, H, lg, u, Ah, ch, hk, hk10, rfl, rfl, hHk, hown, hno, hG, hrow, hA, hB, hBh⟩ := hrel
    have HG := Lib.hid hG
    have Hown := Lib.hid hown
    have Hno := Lib.hid hno
    have Hrow := Lib.hid hrow
    have HA := Lib.hid hA
    have HB := Lib.hid hB
    have hwr := hB.size
    have hHl : H.length ≤ 10 := by omega
    clear hown hno hG hrow hA
    by_cases hgo : k < l.length ∧ k < 10
    · obtain ⟨hlt, hlt10⟩ := hgo
      obtain ⟨bA, off, rfl, hbl, hcl⟩ := bytes_at He.out (by omega)
      obtain ⟨x, hx⟩ : ∃ x, l[k]? = some x := ⟨_, List.getElem?_eq_getElem hlt⟩
      obtain ⟨x0, x1⟩ := Hq.out x (List.mem_of_getElem? hx)
      have cx := old_cell hB (hcl k x hx)
      clear hcl hx hB
      go_wp2_with fail
      obtain ⟨n, Hn⟩ : ∃ n, Hid (8 * (1 + x % 12) = n) := ⟨_, rfl⟩
      have n0 : 8 ≤ n := by rw [← Hn.out]; omega
      have n1 : n ≤ 96 := by rw [← Hn.out]; omega
      have n8 := Lib.hid (show n % 8 = 0 by rw [← Hn.out]; omega)
      rw [Hn.out]
      obtain ⟨a, HC1⟩ : ∃ a, Hid ((carveF n lg).1 = a) := ⟨_, rfl⟩
      obtain ⟨ok, HC2⟩ : ∃ ok, Hid ((carveF n lg).2.1 = ok) := ⟨_, rfl⟩
      obtain ⟨lg', HC3⟩ : ∃ lg', Hid ((carveF n lg).2.2 = lg') := ⟨_, rfl⟩
      refine (carve_any _ p1 80 480 lg q1 _ _ HG.out).mono ?_
      rintro r w4 ⟨rfl, hG, hk⟩
      rw [HC3.out] at hG
      rw [HC1.out, HC2.out]
      have HG4 := Lib.hid hG
      have B4 := Lib.hid (Keep.under HB.out hk hwr (fun i hi => Nat.le_trans z1 (HG.out.blocks i hi)))
      have hnot : ∀ i, w2.heap.size ≤ i → i ∉ p1 :: q1.toList := by
        intro i hi hm
        rcases List.mem_cons.1 hm with rfl | hm
        · exact absurd Hq1.out.1 (by omega)
        · exact absurd (Hq1.out.2 i (by simpa using hm)).1 (by omega)
      have Hown4 := Lib.hid (own_kept Hown.out hk (fun i hi => hnot i (own_ge Hown.out i hi)))
      have Hrow4 := Lib.hid (hk.row Hrow.out (hnot _ (by omega)))
      have z4 := hk.size
      clear hG hk cx hnot
      cases ok with
      | false =>
        have hf := carve_false HC2.out
        have Hlt := Lib.hid (apart_none HC2.out (by omega) n8.out)
        obtain rfl : a = 0 := by rw [← HC1.out, hf.1]
        obtain rfl : lg = lg' := by rw [← HC3.out, hf.2]
        clear hf
        go_wp2_with fail
        refine (free_any _ p1 80 480 lg q1 _ HG4.out).mono ?_
        rintro r w5 ⟨v, rfl, A5, c5, rfl, hc5, hcs5, _, hb⟩
        have hlg := HG4.out.size
        have HG5 := Lib.hid (HG4.out.below hb)
        have B5 := Lib.hid (below_only B4.out hb)
        have Hown5 := Lib.hid (own_below Hown4.out hb)
        have Hrow5 := Lib.hid (row_below Hrow4.out hb)
        have z5 := hb.size
        have Hc5 := Lib.hid hcs5
        clear hb hcs5
        go_wp2
        go_loopw [15] (fun t wr => ∃ j : Nat, j ≤ lg.length ∧ t = .int .i64 j ∧ wr = w5) (fun t _ => lg.length - (intOf t).toNat)
        case atStart => exact ⟨0, Nat.zero_le _, rfl, rfl⟩
        case round =>
          obtain ⟨j, hj, rfl, rfl⟩ := hrel
          by_cases hjl : j < lg.length
          · obtain ⟨bh, oh, rfl, hbh, hch⟩ := exts_at Hc5.out (by omega)
            obtain ⟨y, hy⟩ : ∃ y, lg[j]? = some y := ⟨_, List.getElem?_eq_getElem hjl⟩
            obtain ⟨y0, y1⟩ := hch j y hy
            have hyn := Hlt.out j y hy
            have d1 : decide (y.2 ≥ n) = false := decide_eq_false (by omega)
            have d2 : decide (n ≤ y.2) = false := decide_eq_false (by omega)
            clear hy hch hyn
            go_wp2
            go_roundw
            case rel => exact ⟨j + 1, hjl, by go_num, by first | rfl | trivial⟩
            case measure => simp [intOf]; omega
          · obtain rfl : j = lg.length := by omega
            go_wp2
            go_roundw
            case rel => exact ⟨k + 1, H, lg, u, Ah, ch, by omega, by omega, by go_num, rfl, by omega, Hown5.out, Hno.out, HG5.out, Hrow5.out, HA.out, B5.out, by omega⟩
            case measure => simp [intOf]; omega
      | true =>
        obtain ⟨i, m, h1, h2, him, hfree, hA'⟩ := apart_step HA.out HC2.out
        rw [HC1.out] at h1 hA'
        rw [HC3.out] at hA'
        have HA' := Lib.hid hA'
        have Hfree := Lib.hid hfree
        have hul := HA.out.ulen
        have ha0 : 80 ≤ a := by omega
        have ha1 : a + n ≤ 480 := by omega
        have d1 : decide (a < 80) = false := decide_eq_false (by omega)
        have d2 : decide (a + n > 480) = false := decide_eq_false (by omega)
        have d2' : decide (480 < a + n) = false := decide_eq_false (by omega)
        have d3 : ((a % 8 : Int) != 0) = false := by rw [show a % 8 = 0 by omega]; rfl
        have e1 : n.tdiv 8 = m := by rw [Int.tdiv_eq_ediv_of_nonneg (by omega)]; omega
        have e1' : n / 8 = m := by omega
        have e2 : (a - 80).tdiv 8 = i := by rw [Int.tdiv_eq_ediv_of_nonneg (by omega)]; omega
        have e2' : (a - 80) / 8 = i := by omega
        have n3 : 0 ≤ a - 80 := by omega
        have n4 : 0 ≤ n := by omega
        clear h1 h2 hA' hfree
        go_wp2
        go_loopw [16] (fun t wr => ∃ j : Nat, j ≤ m ∧ t = .int .i64 j ∧ wr.heap[w2.heap.size + 1]? = some (.cells (boolsV (setB u i true j)).toArray 43 (0, 0)) ∧ Keep [w2.heap.size + 1] w4 wr) (fun t _ => m - (intOf t).toNat)
        case atStart => exact ⟨0, Nat.zero_le _, rfl, Hrow4.out, Keep.refl _ _⟩
        case round =>
          obtain ⟨j, hj, rfl, hr, hK⟩ := hrel
          have Hr := Lib.hid hr
          have HK := Lib.hid hK
          have zK := hK.size
          clear hr hK
          by_cases hjm : j < m
          · have hcell : (setB u i true j)[i + j]? = some false := by
              rw [setB_get _ _ _ _ _ (by omega), if_neg (by omega)]
              exact Hfree.out _ (by omega) (by omega)
            have c0 := boolsT_cell Hr.out (i + j) false hcell
            have c0f := row_frozen Hr.out (i + j)
            have e3 : ((i : Int) + (j : Int)).toNat = i + j := by omega
            have e4 : 0 ≤ (i : Int) + (j : Int) := by omega
            have e5 : (i : Int) + (j : Int) < 50 := by omega
            have e6 : i + j < 50 := by omega
            clear hcell
            go_wp2
            go_roundw
            case rel =>
              refine ⟨j + 1, hjm, by go_num, ?_, HK.out.setCell (.inl (by simp)) _⟩
              have := row_set (i := i + j) Hr.out (.bool true)
              rw [bools_set] at this
              exact this
            case measure => simp [intOf]; omega
          · obtain rfl : j = m := by omega
            have Hown5 := Lib.hid (own_kept Hown4.out HK.out (fun b hb hm => by simp at hm; subst hm; exact Hno.out hb))
            have hgu : p1 ≠ w2.heap.size + 1 := by have := Hq1.out.1; omega
            have hgq : ∀ b, q1 = some b → b ∉ [w2.heap.size + 1] := fun b hb hm => by have := (Hq1.out.2 b hb).1; simp at hm; omega
            have HG5 := Lib.hid (HG4.out.kept HK.out (by simp; exact hgu) hgq)
            have B5 := Lib.hid (Keep.under B4.out HK.out B4.out.size (fun b hb => by simp at hb; omega))
            clear hgu hgq
            go_wp2_with (at_builtin; refine wpList_append_any _ rfl (.tmp 114) (.tmp 118) _ (by rfl) w2.heap.size 40 i0 _ 2 16 Try.underlying36 hi0 hz0 hz1 hz2 rfl (by omega) (.slice Ah H.length ch) H.length (H.flatMap extCells) (by rfl) (own_below Hown5.out (by go_grown)) (some ⟨wr.heap.size, 0, none⟩) 1 1 (extCells (a, n)) (by rfl) rfl (cells_two (by simp [go_sem]) (by simp [go_sem])) (extCells_one _) (by simp only [maxLen]; omega) (by omega) (by simp; omega) ?_; intro v6 w6 hown6 hg6 hat6)
            have B6 := Lib.hid (Below.grown (B5.out.alloc (by omega) (.cells #[.int .i64 a, .int .i64 n] 40)) hg6 (by simp; omega) (fun i hi => by have := own_ge Hown5.out i hi; omega))
            have K6 := Lib.hid ((((Keep.refl ((Value.slice Ah H.length ch).ownBlock.toList) wr).alloc (.cells #[.int .i64 a, .int .i64 n] 40))).grown hg6 (fun i hi => .inl (by simp [hi])))
            have Hq6 := Lib.hid (show ∀ i, i ∈ (Value.slice Ah H.length ch).ownBlock.toList → w2.heap.size ≤ i ∧ i ≠ w2.heap.size + 1 from fun i hi => ⟨own_ge Hown5.out i (by simpa using hi), fun e => by subst e; exact Hno.out (by simpa using hi)⟩)
            go_roundw
            case rel =>
              obtain ⟨A6, c6, rfl, -, -, -⟩ := own_slice hown6
              refine ⟨k + 1, H ++ [(a, n)], lg', setB u i true j, A6, c6, by omega, by omega, by go_num, by rw [List.length_append, List.length_singleton], by rw [List.length_append, List.length_singleton]; omega, ?_, ?_, ?_, ?_, HA'.out, B6.out, by have := K6.out.size; omega⟩
              · rw [List.length_append, List.length_singleton, List.flatMap_append]
                simpa using hown6
              · rw [List.length_append, List.length_singleton]
                rcases hat6 with h | h
                · rw [h]
                  exact Hno.out
                · rw [h]
                  have := lt_of_heap Hr.out
                  simp
                  omega
              · exact HG5.out.kept K6.out (fun hm => by have := (Hq6.out _ hm).1; have := Hq1.out.1; omega) (fun b hb hm => by have := (Hq6.out _ hm).1; have := (Hq1.out.2 b hb).1; omega)
              · exact K6.out.row Hr.out (fun hm => (Hq6.out _ hm).2 rfl)
            case measure => simp [intOf]; omega
    · have hex : ¬ k < l.length ∨ (k < l.length ∧ ¬ k < 10) := by omega
      have hAh : ∀ a, Ah = some a → w2.heap.size ≤ a.block := by
        intro a ha
        subst ha
        exact own_ge Hown.out a.block rfl
      have HCh := Lib.hid (Cells.of_own Hown.out)
      have HAh := Lib.hid hAh
      obtain ⟨F, rfl⟩ : ∃ F : Nat, fr = F := ⟨fr.toNat, by omega⟩
      have hul := HA.out.ulen
      obtain ⟨M, HM⟩ : ∃ M, Hid (total lg = M) := ⟨_, rfl⟩
      have hM0 := total_nonneg HA.out.can
      have hM1 := total_le HA.out.can (by omega)
      rw [HM.out] at hM0 hM1
      have HcM := Lib.hid (HA.out.cnt.trans HM.out)
      clear hB hAh Hown hgo
      rcases hex with h1 | ⟨h1, h2⟩
      all_goals
        go_wp2
        go_loopw [17, 18] (fun mo t w9 => ∃ j : Nat, j ≤ 50 ∧ t = .int .i64 j ∧ mo = .int .i64 (8 * cntF (u.take j)) ∧ w9 = wr) (fun _ t _ => 50 - (intOf t).toNat)
        case atStart => exact ⟨0, by omega, rfl, by simp [cntF], rfl⟩
        case round =>
          obtain ⟨j, hj, rfl, rfl, rfl⟩ := hrel
          obtain ⟨C, HC⟩ : ∃ C, Hid (cntF (u.take j) = C) := ⟨_, rfl⟩
          have hC := cntF_bound (u.take j)
          rw [List.length_take, HC.out] at hC
          obtain ⟨hC0, hC1⟩ := hC
          by_cases hj50 : j < 50
          · obtain ⟨b, hb⟩ : ∃ b, u[j]? = some b := ⟨_, List.getElem?_eq_getElem (by omega)⟩
            have c0 := boolsT_cell Hrow.out j b hb
            have hb' := cntF_take hb
            rw [HC.out] at hb' ⊢
            have hC2 : 8 * C ≤ 400 := by omega
            cases b with
            | true =>
              have Hb := Lib.hid (show 8 * C = 8 * cntF (u.take (j + 1)) by rw [hb']; simp)
              clear hb hb'
              go_wp2
              go_roundw
              case rel => exact ⟨j + 1, hj50, by go_num, by rw [Hb.out], by first | rfl | trivial⟩
              case measure => simp [intOf]; omega
            | false =>
              have Hb := Lib.hid (show 8 * C + 8 = 8 * cntF (u.take (j + 1)) by rw [hb']; simp; omega)
              clear hb hb'
              go_wp2
              go_roundw
              case rel => exact ⟨j + 1, hj50, by go_num, by rw [Hb.out], by first | rfl | trivial⟩
              case measure => simp [intOf]; omega
          · obtain rfl : j = 50 := by omega
            rw [List.take_of_length_le (by omega), HcM.out]
            clear hC0 hC1
            go_wp2_with fail
            refine (free_any _ p1 80 480 lg q1 _ HG.out).mono ?_
            rintro r w6 ⟨v, rfl, A6, c6, rfl, hc6, hcs6, _, hb⟩
            have hlg := HG.out.size
            have HG6 := Lib.hid (HG.out.below hb)
            have B6 := Lib.hid (below_only HB.out hb)
            have HCh6 := Lib.hid (HCh.out.below hb)
            have Hc6 := Lib.hid hcs6
            clear hb hcs6
            go_wp2
            go_loopw [17, 20] (fun mo t w9 => ∃ j : Nat, j ≤ lg.length ∧ t = .int .i64 j ∧ mo = .int .i64 (M - total (lg.take j)) ∧ w9 = w6) (fun _ t _ => lg.length - (intOf t).toNat)
            case atStart => exact ⟨0, Nat.zero_le _, rfl, by simp [total], rfl⟩
            case round =>
              obtain ⟨j, hj, rfl, rfl, rfl⟩ := hrel
              by_cases hjl : j < lg.length
              · obtain ⟨bh, oh, rfl, hbh, hch⟩ := exts_at Hc6.out (by omega)
                obtain ⟨y, hy⟩ : ∃ y, lg[j]? = some y := ⟨_, List.getElem?_eq_getElem hjl⟩
                obtain ⟨y0, y1⟩ := hch j y hy
                obtain ⟨T, HT⟩ : ∃ T, Hid (total (lg.take j) = T) := ⟨_, rfl⟩
                have hTx := total_upto hy
                have hsp : Canon 80 480 (lg.take j ++ lg.drop j) := by rw [List.take_append_drop]; exact HA.out.can
                have hT0 := total_nonneg hsp.split.1
                have hT1 := total_le hsp.split.1 (by omega)
                rw [HT.out] at hTx hT0 hT1
                obtain ⟨m1, m2, -, -, m5⟩ := HA.out.can.mem (List.mem_of_getElem? hy)
                have s1 : -9223372036854775808 ≤ M - T - y.2 := by omega
                have s2 : M - T - y.2 ≤ 9223372036854775807 := by omega
                have HTx := Lib.hid (show M - T - y.2 = M - total (lg.take (j + 1)) by rw [hTx]; omega)
                clear hy hch hTx hsp
                rw [HT.out]
                go_wp2
                go_roundw
                case rel => exact ⟨j + 1, hjl, by go_num, by rw [HTx.out], by first | rfl | trivial⟩
                case measure => simp [intOf]; omega
              · obtain rfl : j = lg.length := by omega
                rw [List.take_length, show M - total lg = 0 by rw [HM.out]; omega]
                go_wp2
                go_loopw [21] (fun t w9 => ∃ (i : Nat) (L : List Ext) (q : Option Nat), i ≤ H.length ∧ t = .int .i64 i ∧ Gr w1.heap.size w9 p1 80 480 L q ∧ Given 80 480 lg H (apartAt H.length F) i L ∧ Below w.heap.size w w9 ∧ Cells w9 Ah (H.flatMap extCells)) (fun t _ => H.length - (intOf t).toNat)
                case atStart => exact ⟨0, lg, q1, Nat.zero_le _, rfl, HG6.out, Given.zero _ _ HA.out.can, B6.out, HCh6.out⟩
                case round =>
                  obtain ⟨i, L, q, hi, rfl, hG, hgv, hB, hC⟩ := hrel
                  have HGi := Lib.hid hG
                  have Hgv := Lib.hid hgv
                  have HBi := Lib.hid hB
                  have HCi := Lib.hid hC
                  clear hG hgv hB hC
                  by_cases hil : i < H.length
                  · obtain ⟨bh, oh, rfl, hbh, hch⟩ := exts_at HCi.out (by omega)
                    obtain ⟨si, Hsi⟩ : ∃ si, Hid (apartAt H.length F i = si) := ⟨_, rfl⟩
                    have hsi : si < H.length := by rw [← Hsi.out]; exact Nat.mod_lt _ (by omega)
                    obtain ⟨x, hx⟩ : ∃ x, H[si]? = some x := ⟨_, List.getElem?_eq_getElem hsi⟩
                    obtain ⟨x0, x1⟩ := hch si x hx
                    have e1 : ((i : Int) + (F : Int)) % (H.length : Int) = (si : Int) := by
                      rw [← Hsi.out, apartAt]
                      rfl
                    have e2 : 0 ≤ (i : Int) + (F : Int) := by omega
                    have e3 : ((i : Int) + (F : Int)).tmod (H.length : Int) = (si : Int) := by
                      rw [Int.tmod_eq_emod_of_nonneg e2]
                      exact e1
                    have e4 : (H.length : Int) ≠ 0 := by omega
                    have e5 : (si : Int) < (H.length : Int) := by omega
                    have Hx := Lib.hid hx
                    clear hx hch
                    go_wp2_with fail
                    obtain ⟨L1, HL1⟩ : ∃ L1, Hid (joins (giveAll x.1 x.2 L) = L1) := ⟨_, rfl⟩
                    obtain ⟨g1, hg1⟩ := Hgv.out.next HA.out.held (fun k hk he => by
                      have h3 : i + F = (k + F) + (i - k) := by omega
                      rw [apartAt, apartAt, h3] at he
                      exact mod_ne (by omega) (by omega) he.symm) (x := x) (by rw [Hsi.out]; exact Hx.out)
                    rw [HL1.out] at g1 hg1
                    have fx := HA.out.held.fit x (List.mem_of_getElem? Hx.out)
                    have Hg2 := Lib.hid (give_again (a := x.1) (n := x.2) hg1.can fx ((hg1.cov _).2 (.inr ⟨i, x, by omega, by rw [Hsi.out]; exact Hx.out, Int.le_refl _, by have := fx.2.1; omega⟩)))
                    have Hg1 := Lib.hid g1
                    have Hn1 := Lib.hid hg1
                    have Hfx := Lib.hid (show -9223372036854775808 ≤ x.1 ∧ x.1 ≤ 9223372036854775807 by have := fx.1; have := fx.2.1; have := fx.2.2.2.2; omega)
                    have Rx := Lib.hid (row_new wr #[.int .i64 x.1, .int .i64 x.2] 40)
                    have hG1 := HGi.out.below (show Below wr.heap.size wr (wr.alloc (.cells #[.int .i64 x.1, .int .i64 x.2] 40)) by go_grown)
                    have hB1 : Below w.heap.size w (wr.alloc (.cells #[.int .i64 x.1, .int .i64 x.2] 40)) := below_only HBi.out (by go_grown)
                    have hC1 := HCi.out.alloc (.cells #[.int .i64 x.1, .int .i64 x.2] 40)
                    have hp1 := HGi.out.lt.1
                    have hbp : bh ≠ p1 := by
                      have := Hq1.out.1
                      have : w2.heap.size ≤ bh := HAh.out _ rfl
                      omega
                    have zz := HBi.out.size
                    clear g1 hg1 fx x0 x1
                    generalize wr.alloc (.cells #[.int .i64 x.1, .int .i64 x.2] 40) = w10 at *
                    refine (give_any _ p1 80 480 L q x.1 x.2 _ hG1 Hfx.out).mono ?_
                    rintro r w11 ⟨rfl, ⟨q11, hG, hq11⟩, hk⟩
                    rw [Hg1.out] at hG ⊢
                    have HG11 := Lib.hid hG
                    have HB11 := Lib.hid (Keep.under hB1 hk hB1.size (fun b hb => by simp at hb; subst hb; have := HGi.out.low; omega))
                    have HC11 := Lib.hid (hC1.kept hk (fun a ha => by injection ha with ha; subst ha; simp; exact hbp))
                    have hRx := hk.row Rx.out (by simp; omega)
                    obtain ⟨x0, x1, -, -⟩ := box2 hRx
                    clear hG hq11 hk hG1 hB1 hC1 hRx
                    go_wp2_with fail
                    refine (give_any _ p1 80 480 L1 q11 x.1 x.2 _ HG11.out Hfx.out).mono ?_
                    rintro r w12 ⟨rfl, ⟨q12, hG, hq12⟩, hk⟩
                    rw [Hg2.out] at hG ⊢
                    have HG12 := Lib.hid hG
                    have HB12 := Lib.hid (Keep.under HB11.out hk HB11.out.size (fun b hb => by simp at hb; subst hb; have := HGi.out.low; omega))
                    have HC12 := Lib.hid (HC11.out.kept hk (fun a ha => by injection ha with ha; subst ha; simp; exact hbp))
                    clear hG hq12 hk
                    go_wp2_with fail
                    go_roundw
                    case rel => exact ⟨i + 1, L1, q12, by omega, by go_num, HG12.out, Hn1.out, HB12.out, HC12.out⟩
                    case measure => simp [intOf]; omega
                  · obtain rfl : i = H.length := by omega
                    obtain rfl := apart_all HA.out (fun k hk => by
                      obtain ⟨j, hj1, hj2⟩ := mod_hit (a := F) (n := H.length) (k := k) hk
                      exact ⟨j, hj1, by rw [apartAt, Nat.add_comm]; exact hj2⟩) Hgv.out
                    go_wp2_with fail
                    refine (free_any _ p1 80 480 [(80, 400)] q _ HGi.out).mono ?_
                    rintro r w10 ⟨v, rfl, A10, c10, rfl, hc10, hcs10, _, hb⟩
                    have HB10 := Lib.hid (below_only HBi.out hb)
                    obtain ⟨bz, oz, rfl, _, hcz⟩ := exts_at hcs10 (by simp)
                    obtain ⟨x0, x1⟩ := hcz 0 (80, 400) rfl
                    simp only [Nat.zero_mul, Nat.add_zero] at x0 x1
                    clear hb hcs10 hcz
                    rw [show List.length [((80 : Int), (400 : Int))] = 1 from rfl]
                    go_wp2_with fail
                    go_ret
                    exact ⟨rfl, HB10.out⟩

end Go.Proofs.Ytpkohmbdmbkcbaa
