/- The document's step of an entry: the walk of penfoldref17.Step. -/
import Derived.Test.YtconieenkeajiaaEnterF
namespace Go.Proofs.Ytconieenkeajiaa
open Go.RowKit
set_option linter.unusedVariables false
set_option linter.unusedSimpArgs false

theorem set_one' {P : World → Prop} (W : World) (g i : Nat) (u : Value) (cs cs' : Array Value) (t : TypeId) (h : W.heap[g]? = some (.cells cs t (0, 0))) (he : cs.setIfInBounds i u = cs')
    (K : ∀ Y, Y.heap[g]? = some (.cells cs' t (0, 0)) → Keep [g] W Y → P Y) : P (W.setCell ⟨g, i, none⟩ u) :=
  K _ (by rw [← he]; exact row_set h u) ((Keep.refl [g] W).setCell (p := ⟨g, i, none⟩) (.inl (by simp)) u)
set_option maxRecDepth 100000 in
set_option maxHeartbeats 4000000 in
theorem rstepLook_any (X q d k : Nat) (ws : List Int) (c : Ctl) (s a : Int) (ch : Sl)  (w : World) (hX : RAll w X q d 4 4 0 64 ws) (hc : Right c) (hk : ws[k]? = some (word c)) (hs : 1 ≤ s ∧ s ≤ 3) (ha : (k : Int) = 8 * s) :
    Calls Try.prog 19 #[.pointer (some ⟨X, 0, none⟩), (callRn s a ch).v] w fun r w' => r = .returned (lookN c s a ch).v ∧ Below w.heap.size w w' := by
  have HX := Lib.hid hX
  have Hc := Lib.hid hc
  have Hk := Lib.hid hk
  have Hs := Lib.hid (show 0 ≤ s ∧ s ≤ 7 by omega)
  have Ha := Lib.hid (show (k : Int) = 8 * s + 0 by omega)
  have HU := Lib.hid (unpack_word hc)
  have HY := Lib.hid (word_bd hc)
  obtain ⟨c1, c2, c3, c4⟩ := c
  obtain ⟨d1, d2, d3, d4, e, HE⟩ : ∃ d1 d2 d3 d4 e, Hid (enter ⟨c1, c2, c3, c4⟩ a = (⟨d1, d2, d3, d4⟩, e)) := ctl_parts _
  have HL : Hid (lookN ⟨c1, c2, c3, c4⟩ s a ch = if e = 10 then callRn s a ch else if e = 0 then wayR s a ch (word ⟨c1, c2, c3, c4⟩) (word ⟨d1, d2, d3, d4⟩) else toldR (callRn s a ch) e 0 noS) := Lib.hid (by rw [lookN, HE.out])
  obtain ⟨v, Hv⟩ : ∃ x, Hid (word ⟨c1, c2, c3, c4⟩ = x) := ⟨_, rfl⟩
  rw [Hv.out] at HU HY Hk HL
  have bv0 := HY.out.1
  have bv1 : v ≤ 18446744073709551615 := by have := HY.out.2; omega
  have hX0 : X < w.heap.size := by obtain ⟨gp, h⟩ := HX.out.box; exact lt_of_heap h
  have hq0 : q < w.heap.size := lt_of_heap HX.out.arn.box
  have hd0 : d < w.heap.size := lt_of_heap HX.out.arn.row
  clear hX hc hk hs ha
  go_enter Try.func19, Try.ntmps19
  go_upto_region 1 with fail
  refine two_rows' w _ _ _ _ ?_
  intro w1 hr hz hb
  have B := Lib.hid (hb)
  replace HX := Lib.hid (HX.out.below hb)
  have H_r := Lib.hid (show w1.heap[w.heap.size]? = some (.cells (callRn s a ch).arr 40 (0, 0)) from hr)
  have H_z := Lib.hid (show w1.heap[(w.heap.size + 1)]? = some (.cells ZRun 40 (0, 0)) from hz)
  clear hr hz hb
  have r_22 : w1.cell? ⟨w.heap.size, 22, none⟩ = some (.bool false) := by rw [row_cell H_r.out]; rfl
  have fr : w1.frozen? ⟨w.heap.size, 22, none⟩ = false := row_frozen H_r.out _
  go_upto_region 2 with fail
  clear r_22
  clear fr
  refine set_one' w1 w.heap.size 22 _ _ (callRn s a ch).arr _ H_r.out rfl ?_
  intro w2 hr hK
  replace H_z := Lib.hid (hK.row H_z.out (by simp))
  replace HX := Lib.hid (HX.out.kept hK (by simp; have := hX0; omega) (by simp; have := hq0; omega) (by simp; have := hd0; omega))
  replace B := Lib.hid (Keep.under B.out hK (by have := B.out.size; omega) (by simp))
  replace H_r := Lib.hid hr
  clear hr hK
  have r_7 : w2.cell? ⟨w.heap.size, 7, none⟩ = some (.int .i64 13) := by rw [row_cell H_r.out]; rfl
  have r_4 : w2.cell? ⟨w.heap.size, 4, none⟩ = some (.int .i64 s) := by rw [row_cell H_r.out]; rfl
  go_wp2_with fail
  clear r_7 r_4
  refine (rallGet_any X q d 4 4 0 64 ws k v 0 s _ HX.out Hk.out Ha.out (by decide) Hs.out).mono ?_
  rintro r w3 ⟨rfl, hb⟩
  have hsz := (hb).size
  replace H_r := Lib.hid (row_below H_r.out hb)
  replace H_z := Lib.hid (row_below H_z.out hb)
  replace HX := Lib.hid (HX.out.below hb)
  replace B := Lib.hid (below_only B.out hb)
  clear hb hsz
  go_wp2_with fail
  refine (runpack_as HU HY.out.1 bv1 _).mono ?_
  rintro r w4 ⟨rfl, hb⟩
  have hsz := (hb).size
  replace H_r := Lib.hid (row_below H_r.out hb)
  replace H_z := Lib.hid (row_below H_z.out hb)
  replace HX := Lib.hid (HX.out.below hb)
  replace B := Lib.hid (below_only B.out hb)
  clear hb hsz
  go_upto_region 12 with fail
  refine one_row w4 _ _ ?_
  intro w5 hr hb
  have hlB := B.out.size
  have hl_r := lt_of_heap H_r.out
  have hl_z := lt_of_heap H_z.out
  have hsz := (hb).size
  replace H_r := Lib.hid (row_below H_r.out hb)
  replace H_z := Lib.hid (row_below H_z.out hb)
  replace HX := Lib.hid (HX.out.below hb)
  replace B := Lib.hid (below_only B.out hb)
  clear hb hsz
  have H_u := Lib.hid (show w5.heap[w4.heap.size]? = some (.cells #[.int .i64 c1, .int .i64 c2, .int .i64 c3, .int .i64 c4] 23 (0, 0)) from hr)
  clear hr
  obtain ⟨g_u, hg_u⟩ : ∃ x, x = w4.heap.size := ⟨_, rfl⟩
  rw [← hg_u] at H_u ⊢
  have M_r_u : Hid (w.heap.size ≠ g_u) := Lib.hid (by omega)
  have M_u_r : Hid (g_u ≠ w.heap.size) := Lib.hid (by omega)
  clear hl_r
  have M_z_u : Hid ((w.heap.size + 1) ≠ g_u) := Lib.hid (by omega)
  have M_u_z : Hid (g_u ≠ (w.heap.size + 1)) := Lib.hid (by omega)
  clear hl_z
  have L_u : Hid (w.heap.size ≤ g_u) := Lib.hid (by omega)
  clear hg_u hlB
  obtain ⟨u_0, u_1, u_2, u_3, u_f0, u_f1, u_f2, u_f3⟩ := box4 H_u.out
  have z_u := lt_of_heap H_u.out
  have r_8 : w5.cell? ⟨w.heap.size, 8, none⟩ = some (.int .i64 a) := by rw [row_cell H_r.out]; rfl
  go_wp2_with fail
  clear u_0 u_1 u_2 u_3 u_f0 u_f1 u_f2 u_f3 z_u r_8
  refine (renter_as HE _).mono ?_
  rintro r w6 ⟨rfl, hb⟩
  have hsz := (hb).size
  replace H_r := Lib.hid (row_below H_r.out hb)
  replace H_z := Lib.hid (row_below H_z.out hb)
  replace H_u := Lib.hid (row_below H_u.out hb)
  replace HX := Lib.hid (HX.out.below hb)
  replace B := Lib.hid (below_only B.out hb)
  clear hb hsz
  go_upto_region 13 with fail
  refine one_row w6 _ _ ?_
  intro w7 hr hb
  have hlB := B.out.size
  have hl_r := lt_of_heap H_r.out
  have hl_z := lt_of_heap H_z.out
  have hl_u := lt_of_heap H_u.out
  have hsz := (hb).size
  replace H_r := Lib.hid (row_below H_r.out hb)
  replace H_z := Lib.hid (row_below H_z.out hb)
  replace H_u := Lib.hid (row_below H_u.out hb)
  replace HX := Lib.hid (HX.out.below hb)
  replace B := Lib.hid (below_only B.out hb)
  clear hb hsz
  have H_v := Lib.hid (show w7.heap[w6.heap.size]? = some (.cells #[.int .i64 d1, .int .i64 d2, .int .i64 d3, .int .i64 d4] 23 (0, 0)) from hr)
  clear hr
  obtain ⟨g_v, hg_v⟩ : ∃ x, x = w6.heap.size := ⟨_, rfl⟩
  rw [← hg_v] at H_v ⊢
  have M_r_v : Hid (w.heap.size ≠ g_v) := Lib.hid (by omega)
  have M_v_r : Hid (g_v ≠ w.heap.size) := Lib.hid (by omega)
  clear hl_r
  have M_z_v : Hid ((w.heap.size + 1) ≠ g_v) := Lib.hid (by omega)
  have M_v_z : Hid (g_v ≠ (w.heap.size + 1)) := Lib.hid (by omega)
  clear hl_z
  have M_u_v : Hid (g_u ≠ g_v) := Lib.hid (by omega)
  have M_v_u : Hid (g_v ≠ g_u) := Lib.hid (by omega)
  clear hl_u
  have L_v : Hid (w.heap.size ≤ g_v) := Lib.hid (by omega)
  clear hg_v hlB
  by_cases h10 : e = 10
  · skip
    have Hf := Lib.hid (HL.out.trans (if_pos h10))
    have t1 : (e == 10) = true := by simp [h10]
    clear h10
    go_wp2_with (first | refine wpList_load_row rfl 40 (.tmp 3) rfl w.heap.size rfl 40 (callRn s a ch).arr (0, 0) _ H_r.out undRun rfl infoRun ?_ | refine wpList_store_row rfl 40 (.tmp 4) (.tmp 58) rfl (w.heap.size + 1) (callRn s a ch).arr rfl rfl 40 ZRun H_z.out infoRun rfl (Rn.one _) ?_)
    refine bodyPost_ret (results_cell_row (fn := Try.f19) rfl _ _ (w.heap.size + 1) 40 (callRn s a ch).arr (0, 0) _ rfl (setRow_heap w7 _ _ _ _ (0, 0) H_z.out) undRun rfl infoRun) rfl ?_
    exact ⟨by rw [Hf.out], below_setRow B.out (by omega) _⟩
  · by_cases h0 : e = 0
    · skip
      have Hf := Lib.hid (HL.out.trans ((if_neg h10).trans (if_pos h0)))
      have t1 : (e == 10) = false := by simpa using h10
      have t2 : (e != 0) = false := by simp [h0]
      have hd : Right ⟨d1, d2, d3, d4⟩ := enter_right (by rw [HE.out, h0])
      have HP := Lib.hid (pack_right hd)
      obtain ⟨v2, Hv2⟩ : ∃ x, Hid (word ⟨d1, d2, d3, d4⟩ = x) := ⟨_, rfl⟩
      rw [Hv2.out] at HP Hf
      clear h10 h0 hd
      have r_12 : w7.cell? ⟨w.heap.size, 12, none⟩ = some (.int .u64 0) := by rw [row_cell H_r.out]; rfl
      have fr : w7.frozen? ⟨w.heap.size, 12, none⟩ = false := row_frozen H_r.out _
      have zr := lt_of_heap H_r.out
      go_upto_region 18 with fail
      clear r_12
      clear fr zr
      refine set_one' w7 w.heap.size 12 _ _ (Rn.arr { (callRn s a ch) with word := v }) _ H_r.out rfl ?_
      intro w8 hr hK
      replace H_z := Lib.hid (hK.row H_z.out (by simp))
      replace H_v := Lib.hid (hK.row H_v.out (by simpa using M_r_v.out.symm))
      replace HX := Lib.hid (HX.out.kept hK (by simp; have := hX0; omega) (by simp; have := hq0; omega) (by simp; have := hd0; omega))
      replace B := Lib.hid (Keep.under B.out hK (by have := B.out.size; omega) (by simp))
      replace H_r := Lib.hid hr
      clear hr hK H_u
      obtain ⟨v_0, v_1, v_2, v_3, v_f0, v_f1, v_f2, v_f3⟩ := box4 H_v.out
      have z_v := lt_of_heap H_v.out
      go_wp2_with fail
      clear v_0 v_1 v_2 v_3 v_f0 v_f1 v_f2 v_f3 z_v
      refine (rpack_as HP _).mono ?_
      rintro r w9 ⟨rfl, hb⟩
      have hsz := (hb).size
      replace H_r := Lib.hid (row_below H_r.out hb)
      replace H_z := Lib.hid (row_below H_z.out hb)
      replace H_v := Lib.hid (row_below H_v.out hb)
      replace HX := Lib.hid (HX.out.below hb)
      replace B := Lib.hid (below_only B.out hb)
      clear hb hsz
      have r_13 : w9.cell? ⟨w.heap.size, 13, none⟩ = some (.int .u64 0) := by rw [row_cell H_r.out]; rfl
      have r_7 : w9.cell? ⟨w.heap.size, 7, none⟩ = some (.int .i64 13) := by rw [row_cell H_r.out]; rfl
      have fr : w9.frozen? ⟨w.heap.size, 13, none⟩ = false := row_frozen H_r.out _
      have fr2 : w9.frozen? ⟨w.heap.size, 7, none⟩ = false := row_frozen H_r.out _
      have zr := lt_of_heap H_r.out
      go_upto_region 20 with fail
      clear r_13 r_7
      clear fr fr2 zr
      refine set_two w9 w.heap.size 13 7 _ _ _ _ H_r.out ?_
      intro w10 hr hK
      replace H_z := Lib.hid (hK.row H_z.out (by simp))
      replace B := Lib.hid (Keep.under B.out hK (by have := B.out.size; omega) (by simp))
      replace H_r := Lib.hid (show w10.heap[w.heap.size]? = some (.cells (wayR s a ch v v2).arr 40 (0, 0)) from hr)
      clear hr hK H_v
      go_wp2_with (first | refine wpList_load_row rfl 40 (.tmp 3) rfl w.heap.size rfl 40 (wayR s a ch v v2).arr (0, 0) _ H_r.out undRun rfl infoRun ?_ | refine wpList_store_row rfl 40 (.tmp 4) (.tmp 73) rfl (w.heap.size + 1) (wayR s a ch v v2).arr rfl rfl 40 ZRun H_z.out infoRun rfl (Rn.one _) ?_)
      refine bodyPost_ret (results_cell_row (fn := Try.f19) rfl _ _ (w.heap.size + 1) 40 (wayR s a ch v v2).arr (0, 0) _ rfl (setRow_heap w10 _ _ _ _ (0, 0) H_z.out) undRun rfl infoRun) rfl ?_
      exact ⟨by rw [Hf.out], below_setRow B.out (by omega) _⟩
    · skip
      have Hf := Lib.hid (HL.out.trans ((if_neg h10).trans (if_neg h0)))
      have t1 : (e == 10) = false := by simpa using h10
      have t2 : (e != 0) = true := by simpa using h0
      clear h10 h0
      go_wp2_with (first | refine wpList_load_row rfl 40 (.tmp 3) rfl w.heap.size rfl 40 (callRn s a ch).arr (0, 0) _ H_r.out undRun rfl infoRun ?_)
      refine (rtell_any (callRn s a ch) e 0 _).mono ?_
      rintro r w8 ⟨rfl, hb⟩
      have hsz := (hb).size
      replace H_r := Lib.hid (row_below H_r.out hb)
      replace H_z := Lib.hid (row_below H_z.out hb)
      replace H_u := Lib.hid (row_below H_u.out hb)
      replace H_v := Lib.hid (row_below H_v.out hb)
      replace HX := Lib.hid (HX.out.below hb)
      replace B := Lib.hid (below_only B.out hb)
      clear hb hsz
      go_wp2_with (first | refine wpList_store_row rfl 40 (.tmp 4) (.tmp 63) rfl (w.heap.size + 1) (toldR (callRn s a ch) e 0 noS).arr rfl rfl 40 ZRun H_z.out infoRun rfl (Rn.one _) ?_)
      refine bodyPost_ret (results_cell_row (fn := Try.f19) rfl _ _ (w.heap.size + 1) 40 (toldR (callRn s a ch) e 0 noS).arr (0, 0) _ rfl (setRow_heap w8 _ _ _ _ (0, 0) H_z.out) undRun rfl infoRun) rfl ?_
      exact ⟨by rw [Hf.out], below_setRow B.out (by omega) _⟩

set_option maxRecDepth 100000 in
set_option maxHeartbeats 4000000 in
theorem rstepEnter_any (X q d k : Nat) (ws : List Int) (c : Ctl) (s a : Int) (ch : Sl) (x y : Int) (w : World) (hX : RAll w X q d 4 4 0 64 ws) (hc : Right c) (hk : ws[k]? = some (word c)) (hs : 1 ≤ s ∧ s ≤ 3) (ha : (k : Int) = 8 * s) (hy : 0 ≤ y ∧ y < 18446744073709551616) :
    Calls Try.prog 19 #[.pointer (some ⟨X, 0, none⟩), (wayR s a ch x y).v] w fun r w' => r = .returned (enterN (word c) s a ch x y).v ∧ RAll w' X q d 4 4 0 64 (ws.set k (enterW (word c) x y)) ∧ Keep [d] w w' := by
  have HX := Lib.hid hX
  have Hk := Lib.hid hk
  have Hs := Lib.hid (show 0 ≤ s ∧ s ≤ 7 by omega)
  have Ha := Lib.hid (show 64 * s + 8 * 0 = 8 * (k : Int) by omega)
  have Hy := Lib.hid hy
  obtain ⟨v, Hv⟩ : ∃ x, Hid (word c = x) := ⟨_, rfl⟩
  rw [Hv.out] at Hk ⊢
  have hX0 : X < w.heap.size := by obtain ⟨gp, h⟩ := HX.out.box; exact lt_of_heap h
  have hq0 : q < w.heap.size := lt_of_heap HX.out.arn.box
  have hd0 : d < w.heap.size := lt_of_heap HX.out.arn.row
  clear hX hc hk hs ha hy
  go_enter Try.func19, Try.ntmps19
  go_upto_region 1 with fail
  refine two_rows' w _ _ _ _ ?_
  intro w1 hr hz hb
  have B := Lib.hid (hb)
  replace HX := Lib.hid (HX.out.below hb)
  have H_r := Lib.hid (show w1.heap[w.heap.size]? = some (.cells (wayR s a ch x y).arr 40 (0, 0)) from hr)
  have H_z := Lib.hid (show w1.heap[(w.heap.size + 1)]? = some (.cells ZRun 40 (0, 0)) from hz)
  clear hr hz hb
  have r_22 : w1.cell? ⟨w.heap.size, 22, none⟩ = some (.bool false) := by rw [row_cell H_r.out]; rfl
  have fr : w1.frozen? ⟨w.heap.size, 22, none⟩ = false := row_frozen H_r.out _
  go_upto_region 2 with fail
  clear r_22
  clear fr
  refine set_one' w1 w.heap.size 22 _ _ (wayR s a ch x y).arr _ H_r.out rfl ?_
  intro w2 hr hK
  replace H_z := Lib.hid (hK.row H_z.out (by simp))
  replace HX := Lib.hid (HX.out.kept hK (by simp; have := hX0; omega) (by simp; have := hq0; omega) (by simp; have := hd0; omega))
  replace B := Lib.hid (Keep.under B.out hK (by have := B.out.size; omega) (by simp))
  replace H_r := Lib.hid hr
  clear hr hK
  have r_7 : w2.cell? ⟨w.heap.size, 7, none⟩ = some (.int .i64 14) := by rw [row_cell H_r.out]; rfl
  go_upto_region 3 with fail
  clear r_7
  have r_4 : w2.cell? ⟨w.heap.size, 4, none⟩ = some (.int .i64 s) := by rw [row_cell H_r.out]; rfl
  have r_12 : w2.cell? ⟨w.heap.size, 12, none⟩ = some (.int .u64 x) := by rw [row_cell H_r.out]; rfl
  have r_13 : w2.cell? ⟨w.heap.size, 13, none⟩ = some (.int .u64 y) := by rw [row_cell H_r.out]; rfl
  have X_5 := HX.out.cell
  by_cases hx : v = x
  · have hx0 := hx
    refine wp_region_held_drew (S := fun W => W.cell? ⟨X, 5, none⟩ = some (.pointer (some ⟨q, 0, none⟩)) ∧ W.cell? ⟨w.heap.size, 4, none⟩ = some (.int .i64 s) ∧ W.cell? ⟨w.heap.size, 12, none⟩ = some (.int .u64 x) ∧ W.cell? ⟨w.heap.size, 13, none⟩ = some (.int .u64 y)) (by kernel_rfl) (by first | exact ⟨X_5, r_4, r_12, r_13⟩ | (dsimp only; exact ⟨X_5, r_4, r_12, r_13⟩)) ?_
    intro hS
    have hA : RAll w2.drew X q d 4 4 0 64 ws := HX.out.drew
    have hR : w2.drew.heap[w.heap.size]? = some (.cells (wayR s a ch x y).arr 40 (0, 0)) := H_r.out
    have hZz : w2.drew.heap[w.heap.size + 1]? = some (.cells ZRun 40 (0, 0)) := H_z.out
    have hK0 : Keep [d] w w2.drew := (keep_below B.out [d]).drew
    clear HX H_r H_z B X_5 r_4 r_12 r_13
    generalize w2.drew = y0 at hS hA hR hZz hK0 ⊢
    refine wpAnyH_take_at (i := 0) (v := ?v0x1) (some 17) rfl rfl (by kernel_rfl) (by kernel_rfl) (by kernel_rfl) (fun _ _ _ h => h) (Or.inl ⟨by kernel_rfl, ?h0x1⟩) (by assumption) ?r0x1
    case h0x1 => (intro w hSw; obtain ⟨s0, s1, s14, s15⟩ := hSw; go_simp; first | done | (with_reducible rfl))
    try simp only [Act.put]
    try simp only [List.setIfInBounds_toArray]
    try simp only [List.set_cons_succ]
    try simp only [List.set_cons_zero]
    refine wpAnyH_take_at (i := 1) (v := ?v1x2) (some 18) rfl rfl (by kernel_rfl) (by kernel_rfl) (by kernel_rfl) (fun _ _ _ h => h) (Or.inl ⟨by kernel_rfl, ?h1x2⟩) (by assumption) ?r1x2
    case h1x2 => (intro w hSw; obtain ⟨s0, s1, s14, s15⟩ := hSw; go_simp; first | done | (with_reducible rfl))
    try simp only [Act.put]
    try simp only [List.setIfInBounds_toArray]
    try simp only [List.set_cons_succ]
    try simp only [List.set_cons_zero]
    refine wpAnyH_take_at (i := 2) (v := ?v2x3) (some 19) rfl rfl (by kernel_rfl) (by kernel_rfl) (by kernel_rfl) (fun _ _ _ h => h) (Or.inl ⟨by kernel_rfl, ?h2x3⟩) (by assumption) ?r2x3
    case h2x3 => (intro w hSw; obtain ⟨s0, s1, s14, s15⟩ := hSw; go_simp; first | done | (with_reducible rfl))
    try simp only [Act.put]
    try simp only [List.setIfInBounds_toArray]
    try simp only [List.set_cons_succ]
    try simp only [List.set_cons_zero]
    refine wpAnyH_take_at (i := 3) (v := ?v3x4) (some 20) rfl rfl (by kernel_rfl) (by kernel_rfl) (by kernel_rfl) (fun _ _ _ h => h) (Or.inl ⟨by kernel_rfl, ?h3x4⟩) (by assumption) ?r3x4
    case h3x4 => (intro w hSw; obtain ⟨s0, s1, s14, s15⟩ := hSw; go_simp; first | done | (with_reducible rfl))
    try simp only [Act.put]
    try simp only [List.setIfInBounds_toArray]
    try simp only [List.set_cons_succ]
    try simp only [List.set_cons_zero]
    refine wpAnyH_take_at (i := 4) (v := ?v4x5) (some 21) rfl rfl (by kernel_rfl) (by kernel_rfl) (by kernel_rfl) (fun _ _ _ h => h) (Or.inl ⟨by kernel_rfl, ?h4x5⟩) (by assumption) ?r4x5
    case h4x5 => (intro w hSw; obtain ⟨s0, s1, s14, s15⟩ := hSw; go_simp; first | done | (with_reducible rfl))
    try simp only [Act.put]
    try simp only [List.setIfInBounds_toArray]
    try simp only [List.set_cons_succ]
    try simp only [List.set_cons_zero]
    refine wpAnyH_take_at (i := 5) (v := ?v5x6) (some 22) rfl rfl (by kernel_rfl) (by kernel_rfl) (by kernel_rfl) (fun _ _ _ h => h) (Or.inl ⟨by kernel_rfl, ?h5x6⟩) (by assumption) ?r5x6
    case h5x6 => (intro w hSw; obtain ⟨s0, s1, s14, s15⟩ := hSw; go_simp; first | done | (with_reducible rfl))
    try simp only [Act.put]
    try simp only [List.setIfInBounds_toArray]
    try simp only [List.set_cons_succ]
    try simp only [List.set_cons_zero]
    refine wpAnyH_take_at (i := 6) (v := ?v6x7) (some 23) rfl rfl (by kernel_rfl) (by kernel_rfl) (by kernel_rfl) (fun _ _ _ h => h) (Or.inl ⟨by kernel_rfl, ?h6x7⟩) (by assumption) ?r6x7
    case h6x7 => (intro w hSw; obtain ⟨s0, s1, s14, s15⟩ := hSw; go_simp; first | done | (with_reducible rfl))
    try simp only [Act.put]
    try simp only [List.setIfInBounds_toArray]
    try simp only [List.set_cons_succ]
    try simp only [List.set_cons_zero]
    refine wpAnyH_take_at (i := 8) (v := ?v8x8) (some 25) rfl rfl (by kernel_rfl) (by kernel_rfl) (by kernel_rfl) (fun _ _ _ h => h) (Or.inl ⟨by kernel_rfl, ?h8x8⟩) (by assumption) ?r8x8
    case h8x8 => (intro w hSw; obtain ⟨s0, s1, s14, s15⟩ := hSw; go_simp; first | done | (with_reducible rfl))
    try simp only [Act.put]
    try simp only [List.setIfInBounds_toArray]
    try simp only [List.set_cons_succ]
    try simp only [List.set_cons_zero]
    refine wpAnyH_take_at (i := 9) (v := ?v9x9) (some 26) rfl rfl (by kernel_rfl) (by kernel_rfl) (by kernel_rfl) (fun _ _ _ h => h) (Or.inl ⟨by kernel_rfl, ?h9x9⟩) (by assumption) ?r9x9
    case h9x9 => (intro w hSw; obtain ⟨s0, s1, s14, s15⟩ := hSw; go_simp; first | done | (with_reducible rfl))
    try simp only [Act.put]
    try simp only [List.setIfInBounds_toArray]
    try simp only [List.set_cons_succ]
    try simp only [List.set_cons_zero]
    refine wpAnyH_take_at (i := 10) (v := ?v10x10) (some 27) rfl rfl (by kernel_rfl) (by kernel_rfl) (by kernel_rfl) (fun _ _ _ h => h) (Or.inl ⟨by kernel_rfl, ?h10x10⟩) (by assumption) ?r10x10
    case h10x10 => (intro w hSw; obtain ⟨s0, s1, s14, s15⟩ := hSw; go_simp; first | done | (with_reducible rfl))
    try simp only [Act.put]
    try simp only [List.setIfInBounds_toArray]
    try simp only [List.set_cons_succ]
    try simp only [List.set_cons_zero]
    refine wpAnyH_take_at (i := 11) (v := ?v11x11) (some 28) rfl rfl (by kernel_rfl) (by kernel_rfl) (by kernel_rfl) (fun _ _ _ h => h) (Or.inl ⟨by kernel_rfl, ?h11x11⟩) (by assumption) ?r11x11
    case h11x11 => (intro w hSw; obtain ⟨s0, s1, s14, s15⟩ := hSw; go_simp; first | done | (with_reducible rfl))
    try simp only [Act.put]
    try simp only [List.setIfInBounds_toArray]
    try simp only [List.set_cons_succ]
    try simp only [List.set_cons_zero]
    refine wpAnyH_ready (rs := [7]) (by kernel_rfl) (by simp) ?_
    refine AllReadyH.cons rfl (fun K hK => ?_) AllReadyH.nil
    go_simp
    refine (rplanAt_any 0 s _ (by decide) Hs.out).mono ?_
    rintro r y1 ⟨rfl, e1⟩
    rw [e1]
    clear e1 y1
    go_simp
    refine hK.out _ _ (hS) (fun hS => ?_)
    clear hK K
    try simp only [Act.put]
    try simp only [List.setIfInBounds_toArray]
    try simp only [List.set_cons_succ]
    try simp only [List.set_cons_zero]
    refine wpAnyH_ready (rs := [12]) (by kernel_rfl) (by simp) ?_
    refine AllReadyH.cons rfl (fun K hK => ?_) AllReadyH.nil
    go_simp
    refine ((show Calls _ _ _ _ _ from by rw [← hx]; exact rarnCas_yes q d ws k v y _ _ hA.arn Hk.out (by have := Ha.out; omega) Hy.out)).mono ?_
    rintro r yC ⟨rfl, hA1, hK1⟩
    go_simp
    have hA2 := hA.put hK1 hA1
    replace hR := hK1.row hR (by simp; omega)
    replace hZz := hK1.row hZz (by simp; omega)
    replace hK0 := hK0.trans hK1
    clear hA hA1 hK1
    have hA := hA2
    clear hA2
    refine hK.out _ _ (⟨hA.cell, by rw [row_cell hR]; rfl, by rw [row_cell hR]; rfl, by rw [row_cell hR]; rfl⟩) (fun hS => ?_)
    clear hK K
    try simp only [Act.put]
    try simp only [List.setIfInBounds_toArray]
    try simp only [List.set_cons_succ]
    try simp only [List.set_cons_zero]
    refine wpAnyH_take_at (i := 13) (v := ?v13x12) (some 16) rfl rfl (by kernel_rfl) (by kernel_rfl) (by kernel_rfl) (fun _ _ _ h => h) (Or.inl ⟨by kernel_rfl, ?h13x12⟩) (by assumption) ?r13x12
    case h13x12 => (intro w hSw; obtain ⟨s0, s1, s14, s15⟩ := hSw; go_simp; first | done | (with_reducible rfl))
    try simp only [Act.put]
    try simp only [List.setIfInBounds_toArray]
    try simp only [List.set_cons_succ]
    try simp only [List.set_cons_zero]
    refine wpAnyH_take_at (i := 14) (v := ?v14x13) (some 30) rfl rfl (by kernel_rfl) (by kernel_rfl) (by kernel_rfl) (fun _ _ _ h => h) (Or.inl ⟨by kernel_rfl, ?h14x13⟩) (by assumption) ?r14x13
    case h14x13 => (intro w hSw; obtain ⟨s0, s1, s14, s15⟩ := hSw; go_simp; first | done | (with_reducible rfl))
    try simp only [Act.put]
    try simp only [List.setIfInBounds_toArray]
    try simp only [List.set_cons_succ]
    try simp only [List.set_cons_zero]
    refine wpAnyH_take_at (i := 15) (v := ?v15x14) (some 31) rfl rfl (by kernel_rfl) (by kernel_rfl) (by kernel_rfl) (fun _ _ _ h => h) (Or.inl ⟨by kernel_rfl, ?h15x14⟩) (by assumption) ?r15x14
    case h15x14 => (intro w hSw; obtain ⟨s0, s1, s14, s15⟩ := hSw; go_simp; first | done | (with_reducible rfl))
    try simp only [Act.put]
    try simp only [List.setIfInBounds_toArray]
    try simp only [List.set_cons_succ]
    try simp only [List.set_cons_zero]
    refine wpAnyH_take_at (i := 16) (v := ?v16x15) (some 5) rfl rfl (by kernel_rfl) (by kernel_rfl) (by kernel_rfl) (fun _ _ _ h => h) (Or.inl ⟨by kernel_rfl, ?h16x15⟩) (by assumption) ?r16x15
    case h16x15 => (intro w hSw; obtain ⟨s0, s1, s14, s15⟩ := hSw; go_simp; first | done | (with_reducible rfl))
    try simp only [Act.put]
    try simp only [List.setIfInBounds_toArray]
    try simp only [List.set_cons_succ]
    try simp only [List.set_cons_zero]
    refine wpAnyH_take_at (i := 17) (v := ?v17x16) (some 6) rfl rfl (by kernel_rfl) (by kernel_rfl) (by kernel_rfl) (fun _ _ _ h => h) (Or.inl ⟨by kernel_rfl, ?h17x16⟩) (by assumption) ?r17x16
    case h17x16 => (intro w hSw; obtain ⟨s0, s1, s14, s15⟩ := hSw; go_simp; first | done | (with_reducible rfl))
    try simp only [Act.put]
    try simp only [List.setIfInBounds_toArray]
    try simp only [List.set_cons_succ]
    try simp only [List.set_cons_zero]
    refine wpAnyH_done (by kernel_rfl) ?_ _
    have HA := Lib.hid hA
    have HR := Lib.hid hR
    have HZ := Lib.hid hZz
    have HK := Lib.hid hK0
    clear hA hR hZz hK0 hS
    go_wp2_with (first | refine wpList_load_row rfl 40 (.tmp 3) rfl w.heap.size rfl 40 (wayR s a ch x y).arr (0, 0) _ HR.out undRun rfl infoRun ?_)
    refine (rtell_any (wayR s a ch x y) 0 0 _).mono ?_
    rintro r z1 ⟨rfl, hb⟩
    replace HA := Lib.hid (HA.out.below hb)
    replace HZ := Lib.hid (row_below HZ.out hb)
    replace HK := Lib.hid (HK.out.call hb)
    clear hb
    go_wp2_with (first | refine wpList_store_row rfl 40 (.tmp 4) (.tmp 34) rfl (w.heap.size + 1) (toldR (wayR s a ch x y) 0 0 noS).arr rfl rfl 40 ZRun HZ.out infoRun rfl (Rn.one _) ?_)
    refine bodyPost_ret (results_cell_row (fn := Try.f19) rfl _ _ (w.heap.size + 1) 40 (toldR (wayR s a ch x y) 0 0 noS).arr (0, 0) _ rfl (setRow_heap z1 _ _ _ _ (0, 0) HZ.out) undRun rfl infoRun) rfl ?_
    have hks := (Keep.refl [w.heap.size + 1] z1).setRow (g := w.heap.size + 1) (.inl (by simp)) (toldR (wayR s a ch x y) 0 0 noS).arr
    rw [show enterW v x y = y from if_pos hx, show enterN v s a ch x y = (toldR (wayR s a ch x y) 0 0 noS) from if_pos hx]
    exact ⟨rfl, HA.out.kept hks (by simp; omega) (by simp; omega) (by simp; omega), HK.out.then hks (fun i hi h => by simp at h; omega)⟩
  · skip
    refine wp_region_held_drew (S := fun W => W.cell? ⟨X, 5, none⟩ = some (.pointer (some ⟨q, 0, none⟩)) ∧ W.cell? ⟨w.heap.size, 4, none⟩ = some (.int .i64 s) ∧ W.cell? ⟨w.heap.size, 12, none⟩ = some (.int .u64 x) ∧ W.cell? ⟨w.heap.size, 13, none⟩ = some (.int .u64 y)) (by kernel_rfl) (by first | exact ⟨X_5, r_4, r_12, r_13⟩ | (dsimp only; exact ⟨X_5, r_4, r_12, r_13⟩)) ?_
    intro hS
    have hA : RAll w2.drew X q d 4 4 0 64 ws := HX.out.drew
    have hR : w2.drew.heap[w.heap.size]? = some (.cells (wayR s a ch x y).arr 40 (0, 0)) := H_r.out
    have hZz : w2.drew.heap[w.heap.size + 1]? = some (.cells ZRun 40 (0, 0)) := H_z.out
    have hK0 : Keep [d] w w2.drew := (keep_below B.out [d]).drew
    clear HX H_r H_z B X_5 r_4 r_12 r_13
    generalize w2.drew = y0 at hS hA hR hZz hK0 ⊢
    refine wpAnyH_take_at (i := 0) (v := ?v0x17) (some 17) rfl rfl (by kernel_rfl) (by kernel_rfl) (by kernel_rfl) (fun _ _ _ h => h) (Or.inl ⟨by kernel_rfl, ?h0x17⟩) (by assumption) ?r0x17
    case h0x17 => (intro w hSw; obtain ⟨s0, s1, s14, s15⟩ := hSw; go_simp; first | done | (with_reducible rfl))
    try simp only [Act.put]
    try simp only [List.setIfInBounds_toArray]
    try simp only [List.set_cons_succ]
    try simp only [List.set_cons_zero]
    refine wpAnyH_take_at (i := 1) (v := ?v1x18) (some 18) rfl rfl (by kernel_rfl) (by kernel_rfl) (by kernel_rfl) (fun _ _ _ h => h) (Or.inl ⟨by kernel_rfl, ?h1x18⟩) (by assumption) ?r1x18
    case h1x18 => (intro w hSw; obtain ⟨s0, s1, s14, s15⟩ := hSw; go_simp; first | done | (with_reducible rfl))
    try simp only [Act.put]
    try simp only [List.setIfInBounds_toArray]
    try simp only [List.set_cons_succ]
    try simp only [List.set_cons_zero]
    refine wpAnyH_take_at (i := 2) (v := ?v2x19) (some 19) rfl rfl (by kernel_rfl) (by kernel_rfl) (by kernel_rfl) (fun _ _ _ h => h) (Or.inl ⟨by kernel_rfl, ?h2x19⟩) (by assumption) ?r2x19
    case h2x19 => (intro w hSw; obtain ⟨s0, s1, s14, s15⟩ := hSw; go_simp; first | done | (with_reducible rfl))
    try simp only [Act.put]
    try simp only [List.setIfInBounds_toArray]
    try simp only [List.set_cons_succ]
    try simp only [List.set_cons_zero]
    refine wpAnyH_take_at (i := 3) (v := ?v3x20) (some 20) rfl rfl (by kernel_rfl) (by kernel_rfl) (by kernel_rfl) (fun _ _ _ h => h) (Or.inl ⟨by kernel_rfl, ?h3x20⟩) (by assumption) ?r3x20
    case h3x20 => (intro w hSw; obtain ⟨s0, s1, s14, s15⟩ := hSw; go_simp; first | done | (with_reducible rfl))
    try simp only [Act.put]
    try simp only [List.setIfInBounds_toArray]
    try simp only [List.set_cons_succ]
    try simp only [List.set_cons_zero]
    refine wpAnyH_take_at (i := 4) (v := ?v4x21) (some 21) rfl rfl (by kernel_rfl) (by kernel_rfl) (by kernel_rfl) (fun _ _ _ h => h) (Or.inl ⟨by kernel_rfl, ?h4x21⟩) (by assumption) ?r4x21
    case h4x21 => (intro w hSw; obtain ⟨s0, s1, s14, s15⟩ := hSw; go_simp; first | done | (with_reducible rfl))
    try simp only [Act.put]
    try simp only [List.setIfInBounds_toArray]
    try simp only [List.set_cons_succ]
    try simp only [List.set_cons_zero]
    refine wpAnyH_take_at (i := 5) (v := ?v5x22) (some 22) rfl rfl (by kernel_rfl) (by kernel_rfl) (by kernel_rfl) (fun _ _ _ h => h) (Or.inl ⟨by kernel_rfl, ?h5x22⟩) (by assumption) ?r5x22
    case h5x22 => (intro w hSw; obtain ⟨s0, s1, s14, s15⟩ := hSw; go_simp; first | done | (with_reducible rfl))
    try simp only [Act.put]
    try simp only [List.setIfInBounds_toArray]
    try simp only [List.set_cons_succ]
    try simp only [List.set_cons_zero]
    refine wpAnyH_take_at (i := 6) (v := ?v6x23) (some 23) rfl rfl (by kernel_rfl) (by kernel_rfl) (by kernel_rfl) (fun _ _ _ h => h) (Or.inl ⟨by kernel_rfl, ?h6x23⟩) (by assumption) ?r6x23
    case h6x23 => (intro w hSw; obtain ⟨s0, s1, s14, s15⟩ := hSw; go_simp; first | done | (with_reducible rfl))
    try simp only [Act.put]
    try simp only [List.setIfInBounds_toArray]
    try simp only [List.set_cons_succ]
    try simp only [List.set_cons_zero]
    refine wpAnyH_take_at (i := 8) (v := ?v8x24) (some 25) rfl rfl (by kernel_rfl) (by kernel_rfl) (by kernel_rfl) (fun _ _ _ h => h) (Or.inl ⟨by kernel_rfl, ?h8x24⟩) (by assumption) ?r8x24
    case h8x24 => (intro w hSw; obtain ⟨s0, s1, s14, s15⟩ := hSw; go_simp; first | done | (with_reducible rfl))
    try simp only [Act.put]
    try simp only [List.setIfInBounds_toArray]
    try simp only [List.set_cons_succ]
    try simp only [List.set_cons_zero]
    refine wpAnyH_take_at (i := 9) (v := ?v9x25) (some 26) rfl rfl (by kernel_rfl) (by kernel_rfl) (by kernel_rfl) (fun _ _ _ h => h) (Or.inl ⟨by kernel_rfl, ?h9x25⟩) (by assumption) ?r9x25
    case h9x25 => (intro w hSw; obtain ⟨s0, s1, s14, s15⟩ := hSw; go_simp; first | done | (with_reducible rfl))
    try simp only [Act.put]
    try simp only [List.setIfInBounds_toArray]
    try simp only [List.set_cons_succ]
    try simp only [List.set_cons_zero]
    refine wpAnyH_take_at (i := 10) (v := ?v10x26) (some 27) rfl rfl (by kernel_rfl) (by kernel_rfl) (by kernel_rfl) (fun _ _ _ h => h) (Or.inl ⟨by kernel_rfl, ?h10x26⟩) (by assumption) ?r10x26
    case h10x26 => (intro w hSw; obtain ⟨s0, s1, s14, s15⟩ := hSw; go_simp; first | done | (with_reducible rfl))
    try simp only [Act.put]
    try simp only [List.setIfInBounds_toArray]
    try simp only [List.set_cons_succ]
    try simp only [List.set_cons_zero]
    refine wpAnyH_take_at (i := 11) (v := ?v11x27) (some 28) rfl rfl (by kernel_rfl) (by kernel_rfl) (by kernel_rfl) (fun _ _ _ h => h) (Or.inl ⟨by kernel_rfl, ?h11x27⟩) (by assumption) ?r11x27
    case h11x27 => (intro w hSw; obtain ⟨s0, s1, s14, s15⟩ := hSw; go_simp; first | done | (with_reducible rfl))
    try simp only [Act.put]
    try simp only [List.setIfInBounds_toArray]
    try simp only [List.set_cons_succ]
    try simp only [List.set_cons_zero]
    refine wpAnyH_ready (rs := [7]) (by kernel_rfl) (by simp) ?_
    refine AllReadyH.cons rfl (fun K hK => ?_) AllReadyH.nil
    go_simp
    refine (rplanAt_any 0 s _ (by decide) Hs.out).mono ?_
    rintro r y1 ⟨rfl, e1⟩
    rw [e1]
    clear e1 y1
    go_simp
    refine hK.out _ _ (hS) (fun hS => ?_)
    clear hK K
    try simp only [Act.put]
    try simp only [List.setIfInBounds_toArray]
    try simp only [List.set_cons_succ]
    try simp only [List.set_cons_zero]
    refine wpAnyH_ready (rs := [12]) (by kernel_rfl) (by simp) ?_
    refine AllReadyH.cons rfl (fun K hK => ?_) AllReadyH.nil
    go_simp
    refine (rarnCas_no q d ws k v x y _ _ hA.arn Hk.out (by have := Ha.out; omega) hx).mono ?_
    rintro r yC ⟨rfl, e1⟩
    rw [e1]
    clear e1 yC
    go_simp
    refine hK.out _ _ (hS) (fun hS => ?_)
    clear hK K
    try simp only [Act.put]
    try simp only [List.setIfInBounds_toArray]
    try simp only [List.set_cons_succ]
    try simp only [List.set_cons_zero]
    refine wpAnyH_take_at (i := 13) (v := ?v13x28) (some 16) rfl rfl (by kernel_rfl) (by kernel_rfl) (by kernel_rfl) (fun _ _ _ h => h) (Or.inl ⟨by kernel_rfl, ?h13x28⟩) (by assumption) ?r13x28
    case h13x28 => (intro w hSw; obtain ⟨s0, s1, s14, s15⟩ := hSw; go_simp; first | done | (with_reducible rfl))
    try simp only [Act.put]
    try simp only [List.setIfInBounds_toArray]
    try simp only [List.set_cons_succ]
    try simp only [List.set_cons_zero]
    refine wpAnyH_take_at (i := 14) (v := ?v14x29) (some 30) rfl rfl (by kernel_rfl) (by kernel_rfl) (by kernel_rfl) (fun _ _ _ h => h) (Or.inl ⟨by kernel_rfl, ?h14x29⟩) (by assumption) ?r14x29
    case h14x29 => (intro w hSw; obtain ⟨s0, s1, s14, s15⟩ := hSw; go_simp; first | done | (with_reducible rfl))
    try simp only [Act.put]
    try simp only [List.setIfInBounds_toArray]
    try simp only [List.set_cons_succ]
    try simp only [List.set_cons_zero]
    refine wpAnyH_take_at (i := 15) (v := ?v15x30) (some 31) rfl rfl (by kernel_rfl) (by kernel_rfl) (by kernel_rfl) (fun _ _ _ h => h) (Or.inl ⟨by kernel_rfl, ?h15x30⟩) (by assumption) ?r15x30
    case h15x30 => (intro w hSw; obtain ⟨s0, s1, s14, s15⟩ := hSw; go_simp; first | done | (with_reducible rfl))
    try simp only [Act.put]
    try simp only [List.setIfInBounds_toArray]
    try simp only [List.set_cons_succ]
    try simp only [List.set_cons_zero]
    refine wpAnyH_take_at (i := 16) (v := ?v16x31) (some 5) rfl rfl (by kernel_rfl) (by kernel_rfl) (by kernel_rfl) (fun _ _ _ h => h) (Or.inl ⟨by kernel_rfl, ?h16x31⟩) (by assumption) ?r16x31
    case h16x31 => (intro w hSw; obtain ⟨s0, s1, s14, s15⟩ := hSw; go_simp; first | done | (with_reducible rfl))
    try simp only [Act.put]
    try simp only [List.setIfInBounds_toArray]
    try simp only [List.set_cons_succ]
    try simp only [List.set_cons_zero]
    refine wpAnyH_take_at (i := 17) (v := ?v17x32) (some 6) rfl rfl (by kernel_rfl) (by kernel_rfl) (by kernel_rfl) (fun _ _ _ h => h) (Or.inl ⟨by kernel_rfl, ?h17x32⟩) (by assumption) ?r17x32
    case h17x32 => (intro w hSw; obtain ⟨s0, s1, s14, s15⟩ := hSw; go_simp; first | done | (with_reducible rfl))
    try simp only [Act.put]
    try simp only [List.setIfInBounds_toArray]
    try simp only [List.set_cons_succ]
    try simp only [List.set_cons_zero]
    refine wpAnyH_done (by kernel_rfl) ?_ _
    have HA := Lib.hid hA
    have HR := Lib.hid hR
    have HZ := Lib.hid hZz
    have HK := Lib.hid hK0
    have r7 : y0.cell? ⟨w.heap.size, 7, none⟩ = some (.int .i64 14) := by rw [row_cell hR]; rfl
    have r12 : y0.cell? ⟨w.heap.size, 12, none⟩ = some (.int .u64 x) := by rw [row_cell hR]; rfl
    have r13 : y0.cell? ⟨w.heap.size, 13, none⟩ = some (.int .u64 y) := by rw [row_cell hR]; rfl
    have f7 : y0.frozen? ⟨w.heap.size, 7, none⟩ = false := row_frozen hR _
    have f12 : y0.frozen? ⟨w.heap.size, 12, none⟩ = false := row_frozen hR _
    have f13 : y0.frozen? ⟨w.heap.size, 13, none⟩ = false := row_frozen hR _
    have zr := lt_of_heap hR
    clear hA hR hZz hK0 hS
    go_upto_region 9 with fail
    refine set_three y0 w.heap.size 12 13 7 _ _ _ _ _ HR.out ?_
    intro z1 hr hK
    have HR2 := Lib.hid (show z1.heap[w.heap.size]? = some (.cells (callRn s a ch).arr 40 (0, 0)) from hr)
    replace HZ := Lib.hid (hK.row HZ.out (by simp))
    replace HA := Lib.hid (HA.out.kept hK (by simp; omega) (by simp; omega) (by simp; omega))
    replace HK := Lib.hid (HK.out.then hK (fun i hi h => by simp at h; omega))
    clear hr hK r7 r12 r13 f7 f12 f13 zr HR
    go_wp2_with (first | refine wpList_load_row rfl 40 (.tmp 3) rfl w.heap.size rfl 40 (callRn s a ch).arr (0, 0) _ HR2.out undRun rfl infoRun ?_ | refine wpList_store_row rfl 40 (.tmp 4) (.tmp 38) rfl (w.heap.size + 1) (callRn s a ch).arr rfl rfl 40 ZRun HZ.out infoRun rfl (Rn.one _) ?_)
    refine bodyPost_ret (results_cell_row (fn := Try.f19) rfl _ _ (w.heap.size + 1) 40 (callRn s a ch).arr (0, 0) _ rfl (setRow_heap z1 _ _ _ _ (0, 0) HZ.out) undRun rfl infoRun) rfl ?_
    have hks := (Keep.refl [w.heap.size + 1] z1).setRow (g := w.heap.size + 1) (.inl (by simp)) (callRn s a ch).arr
    rw [show enterW v x y = v from if_neg hx, show enterN v s a ch x y = (callRn s a ch) from if_neg hx, set_same Hk.out]
    exact ⟨rfl, HA.out.kept hks (by simp; omega) (by simp; omega) (by simp; omega), HK.out.then hks (fun i hi h => by simp at h; omega)⟩

end Go.Proofs.Ytconieenkeajiaa
