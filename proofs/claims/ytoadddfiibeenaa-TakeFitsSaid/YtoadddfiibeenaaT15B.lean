/- Layer 15: the law's call, chain and shown; an allocation as it begins, and its four steps. (Printed by gen_t15b.py.) -/
import Derived.Test.YtoadddfiibeenaaT15
namespace Go.Proofs.Ytoadddfiibeenaa
open Go.RowKit
set_option linter.unusedVariables false
set_option linter.unusedSimpArgs false

/-- an allocation as it begins -/
def tkCall (k a b c : Int) (ch : Sl) : Rn := ⟨⟨7, 1, 0, 0, a, b, c⟩, 5, k, 0, 0, ch, 0, 0, 0, 0, noS, 0, noS, 0, false, false, false, 0, 0, noS⟩
/-- and behind so many steps -/
def tkAt (c : Ctl) (ba bu : Int) (r : Rn) : Nat → Rn
  | 0 => r
  | 1 => { r with next := c.ep, pc := 2 }
  | 2 => { r with next := c.ep, at_ := ba, pc := 3 }
  | _ => { r with next := c.ep, at_ := ba, word := bu, pc := 4 }
def stepsR (c : Ctl) (ba bu tp : Int) (r : Rn) (j : Nat) : Rn := if j = 4 then takeR c ba bu tp (tkAt c ba bu r 3) else tkAt c ba bu r j
def stepsW (ws : List Int) (k : Nat) (c : Ctl) (ba bu tp : Int) (r : Rn) (j : Nat) : List Int := if j = 4 then takeW ws k tp (tkAt c ba bu r 3) else ws
section
variable {s : Int} {ws : List Int} {k : Nat} {c : Ctl} {ba bu tp : Int} {r : Rn} {ch : Sl}
theorem tkRun_call {a b x : Int} (ha : 0 ≤ a ∧ a ≤ 6) (hb : 0 ≤ b ∧ b ≤ 512) (hx : 0 ≤ x ∧ x ≤ 7) : TkRun k c ba bu ch (tkCall (k : Int) a b x ch) :=
  ⟨rfl, ha, hb, hx, rfl, rfl, rfl, rfl, rfl, .inl rfl, fun h => absurd rfl h, fun h => (by rcases h with h | h <;> cases h), fun h => (by cases h)⟩
theorem tkRun_at (R : TkRun k c ba bu ch r) (h5 : r.pc = 5) {j : Nat} (hj : j < 4) : TkRun k c ba bu ch (tkAt c ba bu r j) := by
  obtain rfl | rfl | rfl | rfl : j = 0 ∨ j = 1 ∨ j = 2 ∨ j = 3 := by omega
  · exact R
  · exact { R with pcs := .inr (.inl rfl), nx := fun _ => rfl, at4 := fun e => (by rcases e with e | e <;> cases e), wd := fun e => (by cases e) }
  · exact { R with pcs := .inr (.inr (.inl rfl)), nx := fun _ => rfl, at4 := fun _ => rfl, wd := fun e => (by cases e) }
  · exact { R with pcs := .inr (.inr (.inr rfl)), nx := fun _ => rfl, at4 := fun _ => rfl, wd := fun _ => rfl }
theorem tkAt_c (j : Nat) : (tkAt c ba bu r j).c = r.c := by
  unfold tkAt
  split <;> rfl
theorem steps_next (R : TkRun k c ba bu ch r) (h5 : r.pc = 5) {j : Nat} (hj : j < 4) : takeR c ba bu tp (stepsR c ba bu tp r j) = stepsR c ba bu tp r (j + 1) ∧ takeW (stepsW ws k c ba bu tp r j) k tp (stepsR c ba bu tp r j) = stepsW ws k c ba bu tp r (j + 1) ∧ stepsW ws k c ba bu tp r j = ws ∧ TkRun k c ba bu ch (stepsR c ba bu tp r j) := by
  have hT := tkRun_at R h5 hj
  obtain rfl | rfl | rfl | rfl : j = 0 ∨ j = 1 ∨ j = 2 ∨ j = 3 := by omega
  · refine ⟨?_, ?_, rfl, hT⟩
    · unfold stepsR; rw [if_neg (by decide), if_neg (by decide)]; unfold takeR; rw [if_pos (by exact h5)]; rfl
    · unfold stepsW stepsR; rw [if_neg (by decide), if_neg (by decide), if_neg (by decide)]; exact takeW_same (by show r.pc ≠ 4; omega)
  · refine ⟨rfl, ?_, rfl, hT⟩
    unfold stepsW stepsR; rw [if_neg (by decide), if_neg (by decide), if_neg (by decide)]; exact takeW_same (by show (2 : Int) ≠ 4; decide)
  · refine ⟨rfl, ?_, rfl, hT⟩
    unfold stepsW stepsR; rw [if_neg (by decide), if_neg (by decide), if_neg (by decide)]; exact takeW_same (by show (3 : Int) ≠ 4; decide)
  · exact ⟨rfl, rfl, rfl, hT⟩
theorem steps_done (R : TkRun k c ba bu ch r) (h5 : r.pc = 5) {j : Nat} (hj : j < 4) : (stepsR c ba bu tp r j).done = false := (steps_next (ws := []) (tp := tp) R h5 hj).2.2.2.done
/-- the call at its end -/
structure TkEnd (c : Ctl) (ba bu tp : Int) (r : Rn) (e : Rn) : Prop where
  done : e.done = true
  point : e.point = true
  code : e.code = if tp + 8 * wordsN r.c.a r.c.b ≤ bu then 0 else 17
  an : e.an = if tp + 8 * wordsN r.c.a r.c.b ≤ bu then hdl r.area c.ep ((ba + tp) / 8) else 0
theorem steps_end (r : Rn) : TkEnd c ba bu tp r (stepsR c ba bu tp r 4) := by
  unfold stepsR
  rw [if_pos rfl]
  unfold takeR
  have h4 : (tkAt c ba bu r 3).pc = 4 := rfl
  rw [if_neg (by rw [h4]; decide), if_neg (by rw [h4]; decide), if_neg (by rw [h4]; decide)]
  have hw : (tkAt c ba bu r 3).word = bu := rfl
  have hc : (tkAt c ba bu r 3).c = r.c := rfl
  rw [hw, hc]
  by_cases h : tp + 8 * wordsN r.c.a r.c.b ≤ bu
  · rw [if_pos h]; exact ⟨rfl, rfl, (if_pos h).symm, (if_pos h).symm⟩
  · rw [if_neg h]; exact ⟨rfl, rfl, (if_neg h).symm, (if_neg h).symm⟩
theorem steps_words (r : Rn) : stepsW ws k c ba bu tp r 4 = if tp + 8 * wordsN r.c.a r.c.b ≤ bu then ((ws.set (8 * k + 3) (tp + 8 * wordsN r.c.a r.c.b)).set ((ba + tp) / 8).toNat (head1 (wordsN r.c.a r.c.b) r.c.a r.c.c)).set (((ba + tp) / 8).toNat + 1) (head2 r.area c.ep) else ws := by
  unfold stepsW
  rw [if_pos rfl]
  unfold takeW
  have h4 : (tkAt c ba bu r 3).pc = 4 := rfl
  have hw : (tkAt c ba bu r 3).word = bu := rfl
  have hc : (tkAt c ba bu r 3).c = r.c := rfl
  have ha : (tkAt c ba bu r 3).at_ = ba := rfl
  have hr : (tkAt c ba bu r 3).area = r.area := rfl
  have hn : (tkAt c ba bu r 3).next = c.ep := rfl
  rw [hw, hc, ha, hr, hn]
  by_cases h : tp + 8 * wordsN r.c.a r.c.b ≤ bu
  · rw [if_pos ⟨h4, h⟩, if_pos h]
  · rw [if_neg (fun e => h e.2), if_neg h]
theorem stepsW_blk (B : BlkOk s ws k c ba bu tp) (R : TkRun k c ba bu ch r) (h5 : r.pc = 5) : BlkOk s (stepsW ws k c ba bu tp r 4) k c ba bu (if tp + 8 * wordsN r.c.a r.c.b ≤ bu then tp + 8 * wordsN r.c.a r.c.b else tp) := by
  have h := take_blk B (tkRun_at R h5 (show 3 < 4 by decide))
  unfold stepsW
  rw [if_pos rfl]
  have e : takeT tp (tkAt c ba bu r 3) = if tp + 8 * wordsN r.c.a r.c.b ≤ bu then tp + 8 * wordsN r.c.a r.c.b else tp := by
    unfold takeT
    by_cases h : tp + 8 * wordsN r.c.a r.c.b ≤ bu
    · rw [if_pos ⟨rfl, h⟩, if_pos h]; rfl
    · rw [if_neg (fun e => h e.2), if_neg h]
  rwa [e] at h
theorem stepsW_other (B : BlkOk s ws k c ba bu tp) (R : TkRun k c ba bu ch r) (h5 : r.pc = 5) {j : Nat} {c' : Ctl} {ba' bu' tp' : Int} (hj : j ≠ k) (B' : BlkOk s ws j c' ba' bu' tp') : BlkOk s (stepsW ws k c ba bu tp r 4) j c' ba' bu' tp' := by
  unfold stepsW
  rw [if_pos rfl]
  exact take_blk_other B (tkRun_at R h5 (show 3 < 4 by decide)) hj B'
end

set_option maxRecDepth 100000 in
set_option maxHeartbeats 2000000 in
theorem call15_any (x y z : Int) (w : World) (hx : 0 ≤ x ∧ x ≤ 255) (hy : 0 ≤ y ∧ y ≤ 255) (hz : 0 ≤ z ∧ z ≤ 255) :
    Calls Try.prog 11 #[.agg #[.int .u8 x, .int .u8 y, .int .u8 z]] w fun r w' => r = .returned (.agg #[.int .u8 7, .int .u8 1, .int .u8 0, .int .u8 0, .int .i64 (x % 7), .int .i64 (y % 61), .int .i64 (z % 8)]) ∧ Below w.heap.size w w' := by
  obtain ⟨x0, x1⟩ := hx
  obtain ⟨y0, y1⟩ := hy
  obtain ⟨z0, z1⟩ := hz
  have e1 : x.tmod 7 = x % 7 := Int.tmod_eq_emod_of_nonneg x0
  have e2 : y.tmod 61 = y % 61 := Int.tmod_eq_emod_of_nonneg y0
  have e3 : z.tmod 8 = z % 8 := Int.tmod_eq_emod_of_nonneg z0
  obtain ⟨a, Ha⟩ : ∃ a, x % 7 = a := ⟨_, rfl⟩
  obtain ⟨b, Hb⟩ : ∃ a, y % 61 = a := ⟨_, rfl⟩
  obtain ⟨c, Hc⟩ : ∃ a, z % 8 = a := ⟨_, rfl⟩
  rw [Ha] at e1 ⊢
  rw [Hb] at e2 ⊢
  rw [Hc] at e3 ⊢
  go_enter Try.func11, Try.ntmps11
  go_upto_region 1 with fail
  refine two_rows' w _ _ _ _ ?_
  intro W hQ hR hB
  obtain ⟨q0, q1, q2, _, _, _⟩ := box3 hQ
  have HR := Lib.hid hR
  have HB := Lib.hid hB
  have zr := lt_of_heap hR
  clear hQ hR hB
  go_wp2_with (refine wpList_store_row rfl 35 (.tmp 2) (.tmp 15) rfl (w.heap.size + 1) #[.int .u8 7, .int .u8 1, .int .u8 0, .int .u8 0, .int .i64 a, .int .i64 b, .int .i64 c] rfl rfl 35 _ HR.out infoCal7 rfl (one7 _ _ _ _ _ _ _) ?_)
  refine bodyPost_ret (results_cell_row (fn := Try.f11) rfl _ _ (w.heap.size + 1) 35 #[.int .u8 7, .int .u8 1, .int .u8 0, .int .u8 0, .int .i64 a, .int .i64 b, .int .i64 c] (0, 0) _ rfl (setRow_heap W _ _ _ _ (0, 0) HR.out) undCal7 rfl infoCal7) rfl ?_
  exact ⟨rfl, below_setRow HB.out (by omega) _⟩

/-- the entries of a thread -/
def chE (i : Bool) : List Ent := if i then [(1, true)] else []
set_option maxRecDepth 100000 in
set_option maxHeartbeats 2000000 in
theorem chain15_any (i : Bool) (w : World) :
    Calls Try.prog 10 #[.bool i] w fun r w' => ∃ A, r = .returned (.slice A (chE i).length (chE i).length) ∧ Ents w' A (chE i) ∧ (∀ z, A = some z → w.heap.size ≤ z.block) ∧ Below w.heap.size w w' := by
  cases i with
  | true =>
    go_enter Try.func10, Try.ntmps10
    go_wp2_with fail
    go_ret
    exact ⟨some ⟨w.heap.size, 0, none⟩, rfl, fun _ => ⟨_, 0, rfl, fun j v hv => by rw [Nat.zero_add, row_cell (row_new _ _ _)]; simpa [chE, entCells] using hv⟩, fun z hz => by injection hz with hz; subst hz; exact Nat.le_refl _, by go_grown⟩
  | false =>
    go_enter Try.func10, Try.ntmps10
    go_wp2_with fail
    go_ret
    exact ⟨none, rfl, Cells.nil, fun z hz => (by cases hz), Below.refl _ _⟩
def chK (i : Bool) : Nat := if i then 1 else 0
theorem of15 (i : Bool) {a b c : Int} (ha : 0 ≤ a ∧ a ≤ 6) (hb : 0 ≤ b ∧ b ≤ 512) (hc : 0 ≤ c ∧ c ≤ 7) (ch : Sl) :
    rbeginRn 2 (chE i) ⟨7, 1, 0, 0, a, b, c⟩ (rregR 0 0 0 0 0) (rregR 0 0 0 0 0) ch = tkCall (chK i : Int) a b c ch := by
  have h1 : beginS 2 (chE i) ⟨7, 1, 0, 0, a, b, c⟩ 0 0 = (0, 5) := by
    have e1 : inB a 0 6 = true := inB_t ha
    have e2 : inB b 0 512 = true := inB_t hb
    have e3 : inB c 0 7 = true := inB_t hc
    simp [beginS, e1, e2, e3, rgOk]
  have h2 : rregR 0 0 0 0 0 = 0 := rfl
  unfold rbeginRn tkCall
  rw [h2, h1]
  cases i <;> rfl
theorem one7' : True := trivial
theorem cal15 {a b c : Int} (ha : 0 ≤ a ∧ a ≤ 6) (hb : 0 ≤ b ∧ b ≤ 512) (hc : 0 ≤ c ∧ c ≤ 7) : CalOk ⟨7, 1, 0, 0, a, b, c⟩ :=
  ⟨by simp, by simp, by simp, by simp, ⟨by simp; omega, by simp; omega⟩, ⟨by simp; omega, by simp; omega⟩, ⟨by simp; omega, by simp; omega⟩⟩
/-- a step, of the four -/
theorem steps15_any (p b k : Nat) (s t i h : Int) (ws : List Int) (c : Ctl) (ba bu tp : Int) (ch : Sl) (r : Rn) (j : Nat) (w : World) (H : PlanOk s t i h) (hB : BlkOk s ws k c ba bu tp) (hR : TkRun k c ba bu ch r) (h5 : r.pc = 5) (hj : j < 4) (hA : Arn w p b (stepsW ws k c ba bu tp r j)) :
    Calls Try.prog 12 #[.agg #[.int .i64 s, .int .i64 t, .int .i64 i, .int .i64 h], .pointer (some ⟨p, 0, none⟩), (stepsR c ba bu tp r j).v] w fun e w' => e = .returned (.tuple #[(stepsR c ba bu tp r (j + 1)).v, .int .i64 0]) ∧ Arn w' p b (stepsW ws k c ba bu tp r (j + 1)) ∧ Keep [b] w w' := by
  obtain ⟨h1, h2, h3, h4⟩ := steps_next (ws := ws) (tp := tp) hR h5 hj
  rw [h3] at hA
  rw [← h1, ← h2, h3]
  exact takeStep_any p b k s t i h ws c ba bu tp _ w H hA (tkIn_of hB h4) h4.done

theorem shPlan15 : PlanOk 2 1 64 64 := ⟨by decide, by decide, by decide, by decide, by decide, by decide, by decide, by decide, by decide, by decide⟩
def shR15 : Rn := ⟨⟨7, 0, 0, 0, 0, 0, 0⟩, 5, 0, 0, 0, noS, 0, 0, 0, 0, noS, 0, noS, 0, false, false, false, 0, 0, noS⟩
theorem shRun15 : TkRun 0 immC 128 64 noS shR15 := ⟨rfl, by decide, by decide, by decide, rfl, rfl, rfl, rfl, rfl, .inl rfl, fun h => absurd rfl h, fun h => (by rcases h with h | h <;> cases h), fun h => (by cases h)⟩
theorem shBlk15 : BlkOk 2 (newWs 2 64 64) 0 immC 128 64 0 := ⟨⟨by kernel_rfl, by kernel_rfl, by kernel_rfl, by kernel_rfl, immC_right⟩, by decide, by decide, by decide, by rw [newWs_len]; decide, by rw [newWs_len]; decide, by decide, by decide, by decide, by decide⟩
set_option maxRecDepth 100000 in
set_option maxHeartbeats 8000000 in
theorem shown15_any (w : World) : Calls Try.prog 7 #[] w fun r w' => r = .returned (.bool true) ∧ Below w.heap.size w w' := by
  go_enter Try.func7, Try.ntmps7
  go_upto_region 2 with fail
  refine one_row w _ _ ?_
  intro w1 hr hb
  have HR := Lib.hid hr
  have B := Lib.hid hb
  obtain ⟨x0, x1, x2, x3, _⟩ := box4 hr
  clear hr hb
  go_wp2_with fail
  refine (foundNewG_any 2 1 64 64 _ shPlan15).mono ?_
  rintro r w2 ⟨p, b, g, q, rfl, hA, hG, hl, hn, hb⟩
  have HA := Lib.hid hA
  have HN : Hid (w.heap.size ≤ b ∧ w.heap.size ≠ b) := Lib.hid ⟨by have := B.out.size; omega, by have := lt_of_heap HR.out; omega⟩
  replace HR := Lib.hid (row_below HR.out hb)
  replace B := Lib.hid (below_only B.out hb)
  clear hA hG hl hn hb x0 x1 x2 x3
  go_upto_region 6 with (first | (refine wpList_build_to rfl 42 _ rfl shR15.arr (by kernel_rfl) ?_; (try simp only [Act.put]); (try simp only [List.setIfInBounds_toArray]); (try simp only [List.set_cons_succ]); (try simp only [List.set_cons_zero])) | (refine wpList_store_row rfl 42 (.tmp 5) (.tmp 21) rfl w2.heap.size shR15.arr rfl rfl 42 ZRun (row_new _ _ _) infoRun rfl (Rn.one _) ?_; (try simp only [Act.put]); (try simp only [List.setIfInBounds_toArray]); (try simp only [List.set_cons_succ]); (try simp only [List.set_cons_zero])))
  refine alloc_set' w2 _ _ _ ?_
  intro w3 hr hb
  have hlp := lt_of_heap HA.out.box
  have hlb := lt_of_heap HA.out.row
  have hlr := lt_of_heap HR.out
  have hlw := B.out.size
  replace HA := Lib.hid (HA.out.below hb)
  replace HR := Lib.hid (row_below HR.out hb)
  replace B := Lib.hid (below_only B.out hb)
  obtain ⟨gc, hgc⟩ : ∃ x, x = w2.heap.size := ⟨_, rfl⟩
  rw [← hgc] at hr ⊢
  have HC := Lib.hid (show w3.heap[gc]? = some (.cells shR15.arr 42 (0, 0)) from hr)
  have HNc : Hid (gc ≠ p ∧ gc ≠ b ∧ gc ≠ w.heap.size ∧ w.heap.size ≤ gc) := Lib.hid (by omega)
  clear hr hb hlp hlb hlr hgc hlw
  go_wp2_with fail
  have Hz : Hid (shR15 = stepsR immC 128 64 0 shR15 0 ∧ newWs 2 64 64 = stepsW (newWs 2 64 64) 0 immC 128 64 0 shR15 0) := Lib.hid ⟨rfl, rfl⟩
  rw [Hz.out.1] at HC
  rw [Hz.out.2] at HA
  go_loopw [6] (fun t wr => ∃ j : Nat, j ≤ 4 ∧ t = .int .i64 j ∧ wr.heap[gc]? = some (.cells (stepsR immC 128 64 0 shR15 j).arr 42 (0, 0)) ∧ Arn wr p b (stepsW (newWs 2 64 64) 0 immC 128 64 0 shR15 j) ∧ wr.heap[w.heap.size]? = some (.cells #[.int .i64 2, .int .i64 1, .int .i64 64, .int .i64 64] 29 (0, 0)) ∧ Below w.heap.size w wr) (fun t _ => (4 - intOf t).toNat)
  case atStart => exact ⟨0, by omega, rfl, HC.out, HA.out, HR.out, B.out⟩
  case round =>
    clear HC HA HR B Hz
    obtain ⟨j, hj, rfl, hc, hA, hr, hB⟩ := hrel
    have HC := Lib.hid hc
    have HA := Lib.hid hA
    have HR := Lib.hid hr
    have B := Lib.hid hB
    clear hc hA hr hB
    by_cases hlt : j < 4
    · obtain ⟨x0, x1, x2, x3, _⟩ := box4 HR.out
      obtain ⟨R, HRq⟩ : ∃ R, Hid (R = stepsR immC 128 64 0 shR15 j) := ⟨_, Lib.hid rfl⟩
      rw [← HRq.out] at HC
      go_wp2_with (first | (refine wpList_load_row rfl 42 (.tmp 5) rfl gc rfl 42 R.arr (0, 0) _ HC.out undRun rfl infoRun ?_))
      rw [HRq.out]
      refine (steps15_any p b 0 2 1 64 64 (newWs 2 64 64) immC 128 64 0 noS shR15 j _ shPlan15 shBlk15 shRun15 rfl hlt HA.out).mono ?_
      rintro r w4 ⟨rfl, hA, hK⟩
      obtain ⟨R2, HR2⟩ : ∃ R, Hid (R = stepsR immC 128 64 0 shR15 (j + 1)) := ⟨_, Lib.hid rfl⟩
      rw [← HR2.out, ← HRq.out]
      replace HC := Lib.hid (hK.row HC.out (by simpa using HNc.out.2.1))
      replace HR := Lib.hid (hK.row HR.out (by simpa using HN.out.2))
      replace B := Lib.hid (Keep.under B.out hK (by have := B.out.size; omega) (by simp; exact HN.out.1))
      have HA2 := Lib.hid hA
      clear hA hK x0 x1 x2 x3
      go_upto_region 8 with (first | (refine wpList_store_row rfl 42 (.tmp 5) (.tmp 31) rfl gc R2.arr rfl rfl 42 R.arr HC.out infoRun rfl (Rn.one _) ?_; (try simp only [Act.put]); (try simp only [List.setIfInBounds_toArray]); (try simp only [List.set_cons_succ]); (try simp only [List.set_cons_zero])))
      refine set_row' w4 gc R.arr R2.arr _ HC.out ?_
      intro w5 hr hK
      rw [HR2.out] at hr
      have HC5 := Lib.hid hr
      have HA5 := Lib.hid (HA2.out.kept hK (by simpa using fun e => HNc.out.1 e.symm) (by simpa using fun e => HNc.out.2.1 e.symm))
      replace HR := Lib.hid (hK.row HR.out (by simpa using fun e => HNc.out.2.2.1 e.symm))
      replace B := Lib.hid (Keep.under B.out hK (by have := B.out.size; omega) (by simp; exact HNc.out.2.2.2))
      clear hr hK HC HA2
      go_wp2_with fail
      go_roundw
      case rel => exact ⟨j + 1, by omega, by go_num, HC5.out, HA5.out, HR.out, B.out⟩
      case measure => simp [intOf]; omega
    · obtain rfl : j = 4 := by omega
      have he := steps_end (c := immC) (ba := 128) (bu := 64) (tp := 0) shR15
      have q21 : wr.cell? ⟨gc, 21, none⟩ = some (.bool true) := by rw [row_cell HC.out]; rw [← he.done]; rfl
      have q24 : wr.cell? ⟨gc, 24, none⟩ = some (.int .i64 16) := by rw [row_cell HC.out]; rw [show (16 : Int) = (stepsR immC 128 64 0 shR15 4).an by rw [he.an]; rfl]; rfl
      clear he
      have B2 := B.out
      go_wp2_with fail
      go_ret
      exact ⟨rfl, B2⟩

end Go.Proofs.Ytoadddfiibeenaa
