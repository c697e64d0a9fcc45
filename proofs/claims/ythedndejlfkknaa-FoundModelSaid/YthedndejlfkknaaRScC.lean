/- The walk of the document's New. -/
import Derived.Test.YthedndejlfkknaaRScB
import Derived.Deep.Cut
import Derived.Deep.CutRange
namespace Go.Proofs.Ythedndejlfkknaa
open Go.RowKit

theorem infoCtl : (Try.prog.info? 56).map (fun i => (i.zero, i.size, i.bytes)) = some (some (.agg #[.int .i64 0, .int .i64 0, .int .i64 0, .int .i64 0]), 4, 32) := by kernel_rfl
abbrev cfree : Ctl := ⟨0, 0, -1, 0⟩
theorem ctls_one (l : List Ctl) : ∀ u ∈ l.flatMap Ctl.cells, u.oneCell' = true := flat_one _ (fun a u hu => by
  simp only [List.mem_cons, List.not_mem_nil, or_false] at hu
  rcases hu with rfl | rfl | rfl | rfl <;> rfl) l
theorem cells_four {w : World} {g : Nat} {a b c d : Value} {t : TypeId} (h : w.heap[g]? = some (.cells #[a, b, c, d] t (0, 0))) : Cells w (some ⟨g, 0, none⟩) [a, b, c, d] :=
  Cells.of_row h (fun j v hv => by simpa using hv)
theorem cells_twor {w : World} {g : Nat} {a b : Value} {t : TypeId} (h : w.heap[g]? = some (.cells #[a, b] t (0, 0))) : Cells w (some ⟨g, 0, none⟩) [a, b] :=
  Cells.of_row h (fun j v hv => by simpa using hv)

structure RNew (W : World) (w : World) (n : Nat) (t i m : Int) (k : Nat) (vC vX : Value) : Prop where
  pl : w.heap[W.heap.size]? = some (.cells #[.int .i64 n, .int .i64 t, .int .i64 i, .int .i64 m] 23 (0, 0))
  hd : w.heap[W.heap.size + 1]? = some (.cells #[vC, vX, .pointer none] 145 (0, 0))
  oc : w.ownsRow (W.heap.size + 2) 56 4 vC k ((List.replicate k cfree).flatMap Ctl.cells)
  ox : w.ownsRow (W.heap.size + 2) 65 2 vX k ((List.replicate k ((0 : Int), (0 : Int))).flatMap extCells)
  ne : ∀ j, vC.ownBlock = some j → vX.ownBlock ≠ some j
  bl : Below W.heap.size W w

set_option maxRecDepth 100000 in
set_option maxHeartbeats 4000000 in
theorem rnewS_any (P : Pln) (w : World) (h : PlnOk P) :
    Calls Try.prog 40 #[P.val] w fun r w' => ∃ p bc bx g gq cc cx dc dx bb, r = .returned (.pointer (some ⟨p, 0, none⟩)) ∧ RSc w.heap.size w' p bc bx g gq cc cx dc dx (P.s * 64 + P.i) (P.s * 64 + P.i + P.h) (newS P) bb ∧ Below w.heap.size w w' := by
  have HPI := Lib.hid (fun W => immortal_plan P W h)
  have HPH := Lib.hid (fun W => heap_plan P W h)
  obtain ⟨s, t, i, m⟩ := P
  obtain ⟨n, rfl⟩ : ∃ n : Nat, s = n := ⟨s.toNat, by have := h.1; dsimp only at this; omega⟩
  obtain ⟨h1, h2, h3, h4, h5, h6, h7, h8, h9, h10⟩ := h
  dsimp only at h1 h2 h3 h4 h5 h6 h7 h8 h9 h10
  have H9 := Lib.hid h9
  have H10 := Lib.hid h10
  clear h9 h10
  have n8 : n ≤ 8 := by omega
  obtain ⟨ic, hic, hzc, hzc1, hzc2⟩ := info_parts infoCtl
  obtain ⟨ix, hix, hzx, hzx1, hzx2⟩ := info_parts infoExt
  go_enter Try.func40, Try.ntmps40
  go_wp2_with fail
  go_loopw [4] (fun tt wr => ∃ (k : Nat) (vC vX : Value), k ≤ n ∧ tt = .int .i64 k ∧ RNew w wr n t i m k vC vX) (fun tt _ => n - (intOf tt).toNat)
  case atStart =>
    exact ⟨0, .slice none 0 0, .slice none 0 0, Nat.zero_le _, rfl, ⟨row_alloc (row_new _ _ _), heap_at (by simp), World.ownsRow_nil _ _ _ _, World.ownsRow_nil _ _ _ _, by simp [Value.ownBlock], by go_grown⟩⟩
  case round =>
    obtain ⟨k, vC, vX, hk, rfl, hN⟩ := hrel
    have HN := Lib.hid hN
    obtain ⟨AC, cC, rfl, hcC, hmC, _⟩ := own_slice hN.oc
    obtain ⟨AX, cX, rfl, hcX, hmX, _⟩ := own_slice hN.ox
    obtain ⟨p0, p1, p2, p3, _, _, _, _⟩ := box4 hN.pl
    obtain ⟨d0, d1, d2, df0, df1, df2⟩ := box3 hN.hd
    have hlr := lt_of_heap hN.hd
    clear hN
    by_cases hlt : k < n
    · have hX1 : Below wr.heap.size wr (wr.alloc (.cells #[.int .i64 0, .int .i64 0, .int .i64 (-1), .int .i64 0] 56)) := by go_grown
      have HX1 := Lib.hid hX1
      have HL1 := Lib.hid (row_new wr #[.int .i64 0, .int .i64 0, .int .i64 (-1), .int .i64 0] 56)
      have HO1 := Lib.hid (own_below HN.out.oc hX1)
      have HOX1 := Lib.hid (own_below HN.out.ox hX1)
      have HD1 := Lib.hid (row_below HN.out.hd hX1)
      have hz1 : (wr.alloc (.cells #[.int .i64 0, .int .i64 0, .int .i64 (-1), .int .i64 0] 56)).heap.size = wr.heap.size + 1 := by simp
      clear hX1
      go_upto_region 6 with (at_builtin; refine wpList_append_any _ rfl (.tmp 18) (.tmp 20) _ (by rfl) (w.heap.size + 2) 56 ic _ 4 32 Try.underlying143 hic hzc hzc1 hzc2 rfl (by omega) (.slice AC k cC) k ((List.replicate k cfree).flatMap Ctl.cells) (by rfl) HO1.out (some ⟨wr.heap.size, 0, none⟩) 1 1 [.int .i64 0, .int .i64 0, .int .i64 (-1), .int .i64 0] (by rfl) rfl (cells_four HL1.out) (ctls_one [cfree]) (by simp only [maxLen]; omega) (by omega) (by rw [hz1]; omega) ?_; intro v1 w1 hown1 hg1 hat1; obtain ⟨A1, c1, rfl, hcc1, hmc1, -⟩ := own_slice hown1; have HOC1 := Lib.hid hown1; have HG1 := Lib.hid hg1; have HAT1 := Lib.hid hat1; have HDD1 := Lib.hid (row_grown HD1.out hg1 (fun e => by have := own_ge HO1.out _ e; omega)); obtain ⟨d0', d1', d2', df0', df1', df2'⟩ := box3 HDD1.out; have hl1' := lt_of_heap HDD1.out; clear hown1 hg1 hat1)
      have hsz1 := HG1.out.size
      rw [hz1] at hsz1
      have hD2 := row_set (i := 0) HDD1.out (.slice A1 (k + 1) c1)
      have hK2 := (Keep.refl [w.heap.size + 1] w1).setCell (p := ⟨w.heap.size + 1, 0, none⟩) (.inl (by simp)) (.slice A1 (k + 1) c1)
      have hB2 := (((HN.out.bl.trans (HX1.out.mono HN.out.bl.size)).grown HG1.out (by rw [hz1]; omega) (fun j hj => by have := own_ge HO1.out j hj; omega)).setCell (p := ⟨w.heap.size + 1, 0, none⟩) (by dsimp only; omega) (.slice A1 (k + 1) c1))
      generalize (w1.setCell ⟨w.heap.size + 1, 0, none⟩ (.slice A1 (k + 1) c1)) = w2 at hD2 hK2 hB2 ⊢
      have hsz2 := hK2.size
      have hPlan1 := row_grown (row_alloc (o' := .cells #[.int .i64 0, .int .i64 0, .int .i64 (-1), .int .i64 0] 56) HN.out.pl) HG1.out (fun e => by have := own_ge HO1.out _ e; omega)
      have HPl2 := Lib.hid (hK2.row hPlan1 (by simp))
      have HD2 := Lib.hid (show w2.heap[w.heap.size + 1]? = some (.cells #[.slice A1 (k + 1) c1, .slice AX k cX, .pointer none] 145 (0, 0)) from by simpa using hD2)
      have HOC2 := Lib.hid (own_kept HOC1.out hK2 (fun j hj => by have := own_ge HOC1.out j hj; simp; omega))
      have HKX := Lib.hid (keep_grown (S := (Value.slice AC k cC).ownBlock.toList) HG1.out (fun j hj => .inl (by simp [hj])))
      have HOX2 := Lib.hid (own_kept (own_kept HOX1.out HKX.out (fun j hj hm => HN.out.ne j (by simpa using hm) hj)) hK2 (fun j hj => by have := own_ge HOX1.out j hj; simp; omega))
      have HB2 := Lib.hid hB2
      clear hB2
      clear hD2 hK2 hPlan1 d0 d1 d2 df0 df1 df2 d0' d1' d2' df0' df1' df2' p0 p1 p2 p3
      obtain ⟨d0, d1, d2, df0, df1, df2⟩ := box3 HD2.out
      have hl2 := lt_of_heap HD2.out
      have HX3 := Lib.hid (show Below w2.heap.size w2 (w2.alloc (.cells #[.int .i64 0, .int .i64 0] 65)) by go_grown)
      have HL3 := Lib.hid (row_new w2 #[.int .i64 0, .int .i64 0] 65)
      have HO3 := Lib.hid (own_below HOX2.out HX3.out)
      have HOC3 := Lib.hid (own_below HOC2.out HX3.out)
      have HD3 := Lib.hid (row_below HD2.out HX3.out)
      have HPl3 := Lib.hid (row_below HPl2.out HX3.out)
      have HB3 := Lib.hid (HB2.out.trans (HX3.out.mono HB2.out.size))
      have hz3 : (w2.alloc (.cells #[.int .i64 0, .int .i64 0] 65)).heap.size = w2.heap.size + 1 := by simp
      -- the two rows do not meet
      have hne12 : ∀ j, (Value.slice A1 (k + 1) c1).ownBlock = some j → (Value.slice AX k cX).ownBlock ≠ some j := fun j hj hx => by
        have hxl := (HN.out.ox.lt j hx).2
        rcases HAT1.out with e | e
        · exact HN.out.ne j (e ▸ hj) hx
        · rw [e, hz1] at hj
          injection hj with hj
          omega
      have Hne12 := Lib.hid hne12
      have hoc3 : ∀ j, (Value.slice A1 (k + 1) c1).ownBlock = some j → j < w2.heap.size := fun j hj => (HOC2.out.lt j hj).2
      have Hoc3 := Lib.hid hoc3
      clear hne12 hoc3
      go_wp2_with (at_builtin; refine wpList_append_any _ rfl (.tmp 28) (.tmp 30) _ (by rfl) (w.heap.size + 2) 65 ix _ 2 16 Try.underlying67 hix hzx hzx1 hzx2 rfl (by omega) (.slice AX k cX) k ((List.replicate k ((0 : Int), (0 : Int))).flatMap extCells) (by rfl) HO3.out (some ⟨w2.heap.size, 0, none⟩) 1 1 [.int .i64 0, .int .i64 0] (by rfl) rfl (cells_twor HL3.out) (exts_one [(0, 0)]) (by simp only [maxLen]; omega) (by omega) (by rw [hz3]; omega) ?_; intro v3 w3 hown3 hg3 hat3; obtain ⟨A3, c3, rfl, hcc3, hmc3, -⟩ := own_slice hown3; have HO4 := Lib.hid hown3; have HG3 := Lib.hid hg3; have HAT3 := Lib.hid hat3; have HDD3 := Lib.hid (row_grown HD3.out hg3 (fun e => by have := own_ge HO3.out _ e; omega)); obtain ⟨d0', d1', d2', df0', df1', df2'⟩ := box3 HDD3.out; have hl3' := lt_of_heap HDD3.out; clear hown3 hg3 hat3)
      go_roundw
      case rel =>
        have hsz3 := HG3.out.size
        rw [hz3] at hsz3
        have hD4 := row_set (i := 1) HDD3.out (.slice A3 (k + 1) c3)
        have hK4 := (Keep.refl [w.heap.size + 1] w3).setCell (p := ⟨w.heap.size + 1, 1, none⟩) (.inl (by simp)) (.slice A3 (k + 1) c3)
        have hPl4 := hK4.row (row_grown HPl3.out HG3.out (fun e => by have := own_ge HO3.out _ e; omega)) (by simp)
        have hKC := keep_grown (S := (Value.slice AX k cX).ownBlock.toList) HG3.out (fun j hj => .inl (by simp [hj]))
        have hOC4 := own_kept (own_kept HOC3.out hKC (fun j hj hm => Hne12.out j hj (by simpa using hm))) hK4 (fun j hj => by have := own_ge HOC3.out j hj; simp; omega)
        have hOX4 := own_kept HO4.out hK4 (fun j hj => by have := own_ge HO4.out j hj; simp; omega)
        have hB4 := (HB3.out.grown HG3.out (by rw [hz3]; have := HB2.out.size; omega) (fun j hj => by have := own_ge HO3.out j hj; omega)).setCell (p := ⟨w.heap.size + 1, 1, none⟩) (by dsimp only; omega) (.slice A3 (k + 1) c3)
        have hrC : (List.replicate k cfree).flatMap Ctl.cells ++ [.int .i64 0, .int .i64 0, .int .i64 (-1), .int .i64 0] = (List.replicate (k + 1) cfree).flatMap Ctl.cells := by rw [List.replicate_succ', List.flatMap_append]; rfl
        have hrX : (List.replicate k ((0 : Int), (0 : Int))).flatMap extCells ++ [.int .i64 0, .int .i64 0] = (List.replicate (k + 1) ((0 : Int), (0 : Int))).flatMap extCells := by rw [List.replicate_succ', List.flatMap_append]; rfl
        rw [hrC] at hOC4
        rw [hrX] at hOX4
        refine ⟨k + 1, .slice A1 (k + 1) c1, .slice A3 (k + 1) c3, hlt, by go_num, ⟨hPl4, by simpa using hD4, hOC4, hOX4, fun j hj hx => ?_, hB4⟩⟩
        have h1 := Hoc3.out j hj
        rcases HAT3.out with e | e
        · exact Hne12.out j hj (e ▸ hx)
        · rw [e, hz3] at hx
          injection hx with hx
          omega
      case measure => simp [intOf]; omega
    · obtain rfl : k = n := by omega
      have hk1 : 1 ≤ k := by omega
      obtain ⟨hlenC, hhC⟩ := HN.out.oc
      obtain ⟨hlenX, hhX⟩ := HN.out.ox
      rcases hhC with ⟨_, hz⟩ | ⟨gC, capC, curC, hvC, hBC, hgC, hncC, hcmC, hcsC, hxC⟩
      · omega
      rcases hhX with ⟨_, hz⟩ | ⟨gX, capX, curX, hvX, hBX, hgX, hncX, hcmX, hcsX, hxX⟩
      · omega
      injection hvC with e1 e2 e3
      injection hvX with e4 e5 e6
      subst e1 e3 e4 e6
      have hneq : gC ≠ gX := fun e => HN.out.ne gC rfl (by rw [e]; rfl)
      obtain ⟨dc, hdc⟩ : ∃ dc, curC.toList = (List.replicate k cfree).flatMap Ctl.cells ++ dc := ⟨_, by rw [← hxC, List.take_append_drop]⟩
      obtain ⟨dx, hdx⟩ : ∃ dx, curX.toList = (List.replicate k ((0 : Int), (0 : Int))).flatMap extCells ++ dx := ⟨_, by rw [← hxX, List.take_append_drop]⟩
      have HC := Lib.hid (show CRow wr gC (List.replicate k scFree) dc by
        simp only [CRow, ctlRow, List.map_replicate]
        rw [show scFree.c = cfree from rfl, ← hdc]
        exact hgC)
      have HX := Lib.hid (show XRow wr gX (List.replicate k scFree) dx by
        simp only [XRow, extRow, List.map_replicate]
        rw [show scFree.x = (0, 0) from rfl, ← hdx]
        exact hgX)
      clear hlenC hlenX hgC hgX hcsC hcsX hxC hxX hdc hdx e2 e5
      have hs : (List.replicate k scFree)[0]? = some scFree := by rw [List.getElem?_replicate, if_pos (by omega)]
      have Hs := Lib.hid hs
      obtain ⟨q0, q1, q2, q3⟩ := crow_cells HC.out hs
      simp only [Nat.zero_mul, Nat.zero_add] at q0 q1 q2 q3
      have cf : ∀ j, wr.frozen? ⟨gC, j, none⟩ = false := fun j => row_frozen HC.out j
      have lC := lt_of_heap HC.out
      have lX := lt_of_heap HX.out
      have hk0 : (0 : Int) < (k : Int) := by omega
      have hkn : 0 < k := by omega
      have hkne : (k = 0) = False := by simp; omega
      have HNl := Lib.hid HN.out.bl
      clear hs
      go_wp2_with fail
      obtain ⟨L, HL⟩ : ∃ L, Hid ((List.replicate k scFree).set 0 ⟨⟨2, 1, -1, 0⟩, ((k : Int) * 64, i)⟩ = L) := ⟨_, rfl⟩
      have hC2 : CRow ((((wr.setCell ⟨gC, 0, none⟩ (.int .i64 2)).setCell ⟨gC, 1, none⟩ (.int .i64 1)).setCell ⟨gC, 2, none⟩ (.int .i64 (-1))).setCell ⟨gC, 3, none⟩ (.int .i64 0)) gC L dc := by
        have := crow_store HC.out Hs.out ⟨⟨2, 1, -1, 0⟩, ((k : Int) * 64, i)⟩
        rw [HL.out] at this
        simpa only [Nat.zero_mul, Nat.zero_add] using this
      have hK2 := (Keep.refl [gC] wr).four (b := gC) (by simp) 0 1 2 3 (.int .i64 2) (.int .i64 1) (.int .i64 (-1)) (.int .i64 0)
      have hB2 := (((HNl.out.setCell (p := ⟨gC, 0, none⟩) (by dsimp only; omega) (.int .i64 2)).setCell (p := ⟨gC, 1, none⟩) (by dsimp only; omega) (.int .i64 1)).setCell (p := ⟨gC, 2, none⟩) (by dsimp only; omega) (.int .i64 (-1))).setCell (p := ⟨gC, 3, none⟩) (by dsimp only; omega) (.int .i64 0)
      generalize ((((wr.setCell ⟨gC, 0, none⟩ (.int .i64 2)).setCell ⟨gC, 1, none⟩ (.int .i64 1)).setCell ⟨gC, 2, none⟩ (.int .i64 (-1))).setCell ⟨gC, 3, none⟩ (.int .i64 0)) = w2 at hC2 hK2 hB2 ⊢
      have HC2 := Lib.hid hC2
      have HX2 := Lib.hid (show XRow w2 gX (List.replicate k scFree) dx from hK2.row HX.out (by simpa using Ne.symm hneq))
      have HD2 := Lib.hid (hK2.row HN.out.hd (by simp; omega))
      have HP2 := Lib.hid (hK2.row HN.out.pl (by simp; omega))
      have HB2 := Lib.hid hB2
      clear hC2 hK2 hB2 d0 d1 d2 df0 df1 df2 p0 p1 p2 p3 q0 q1 q2 q3 cf
      obtain ⟨d0, d1, d2, df0, df1, df2⟩ := box3 HD2.out
      obtain ⟨p0, p1, p2, p3, _, _, _, _⟩ := box4 HP2.out
      go_region_held3 (fun V => V.cell? ⟨w.heap.size + 1, 1, none⟩ = some (.slice (some ⟨gX, 0, none⟩) k cX) ∧ V.cell? ⟨w.heap.size, 0, none⟩ = some (.int .i64 k) ∧ V.cell? ⟨w.heap.size, 1, none⟩ = some (.int .i64 t) ∧ V.cell? ⟨w.heap.size, 2, none⟩ = some (.int .i64 i) ∧ V.cell? ⟨w.heap.size, 3, none⟩ = some (.int .i64 m))
        (refine And.intro ?_ (And.intro ?_ (And.intro ?_ (And.intro ?_ ?_))) <;> first | assumption | exact (World.cell?_setCell_far _ _ _ _ (by dsimp only; omega)).trans ((World.cell?_setCell_far _ _ _ _ (by dsimp only; omega)).trans (by assumption)))
        ((go_at_call 64; refine (HPI.out _).mono ?_; rintro r w3 ⟨rfl, hb3⟩; have HB3 := Lib.hid (HB2.out.drew.trans (hb3.mono HB2.out.size)); have HC3 := Lib.hid (show CRow w3 gC L dc from row_below (heap_drew HC2.out) hb3); have HX3 := Lib.hid (show XRow w3 gX (List.replicate k scFree) dx from row_below (heap_drew HX2.out) hb3); have HD3 := Lib.hid (row_below (heap_drew HD2.out) hb3); have HP3 := Lib.hid (row_below (heap_drew HP2.out) hb3); obtain ⟨d0', d1', d2', df0', df1', df2'⟩ := box3 HD3.out; obtain ⟨p0', p1', p2', p3', _, _, _, _⟩ := box4 HP3.out; obtain ⟨x0, x1⟩ := xrow_cells HX3.out Hs.out; simp only [Nat.zero_mul, Nat.zero_add] at x0 x1; have xf : ∀ j, w3.frozen? ⟨gX, j, none⟩ = false := fun j => row_frozen HX3.out j; have hlt3 := lt_of_heap HX3.out; clear hb3))
      rename_i hHeld
      clear hHeld
      have hX4 : XRow ((w3.setCell ⟨gX, 0, none⟩ (.int .i64 ((k : Int) * 64))).setCell ⟨gX, 1, none⟩ (.int .i64 i)) gX L dx := by
        have := xrow_store HX3.out Hs.out ⟨⟨2, 1, -1, 0⟩, ((k : Int) * 64, i)⟩
        rw [HL.out] at this
        simpa only [Nat.zero_mul, Nat.zero_add] using this
      have hK4 := ((Keep.refl [gX] w3).setCell (p := ⟨gX, 0, none⟩) (.inl (by simp)) (.int .i64 ((k : Int) * 64))).setCell (p := ⟨gX, 1, none⟩) (.inl (by simp)) (.int .i64 i)
      have hB4 := (HB3.out.setCell (p := ⟨gX, 0, none⟩) (by dsimp only; omega) (.int .i64 ((k : Int) * 64))).setCell (p := ⟨gX, 1, none⟩) (by dsimp only; omega) (.int .i64 i)
      generalize ((w3.setCell ⟨gX, 0, none⟩ (.int .i64 ((k : Int) * 64))).setCell ⟨gX, 1, none⟩ (.int .i64 i)) = w4 at hX4 hK4 hB4 ⊢
      have HX4 := Lib.hid hX4
      have HC4 := Lib.hid (show CRow w4 gC L dc from hK4.row HC3.out (by simpa using hneq))
      have HD4 := Lib.hid (hK4.row HD3.out (by simp; omega))
      have HP4 := Lib.hid (hK4.row HP3.out (by simp; omega))
      have HB4 := Lib.hid hB4
      clear hX4 hK4 hB4 d0 d1 d2 df0 df1 df2 d0' d1' d2' df0' df1' df2' p0 p1 p2 p3 p0' p1' p2' p3' x0 x1 xf hlt3
      obtain ⟨p0, p1, p2, p3, _, _, _, _⟩ := box4 HP4.out
      obtain ⟨mm, hmm⟩ : ∃ mm : Nat, m = 8 * (mm : Int) := ⟨(m / 8).toNat, by have := H10.out; omega⟩
      have Hmm := Lib.hid hmm
      clear hmm
      go_wp2_with (first
        | (go_at_call 23; refine (HPH.out _).mono ?_; rintro r w5 ⟨rfl, hb5⟩; have hX5 := (show Below w5.heap.size w5 (w5.alloc (.cells #[.int .i64 ((k : Int) * 64 + i), .int .i64 m] 65)) by go_grown); have HA5 := Lib.hid (below_only hb5 hX5); have HB5 := Lib.hid (HB4.out.trans (HA5.out.mono HB4.out.size)); have hsz5 : (w5.alloc (.cells #[.int .i64 ((k : Int) * 64 + i), .int .i64 m] 65)).heap.size = w5.heap.size + 1 := (by simp); have hz45 := hb5.size; clear p0 p1 p2 p3 hb5 hX5)
        | (go_at_call 61; refine (rnew_any _ _ mm _ (by omega) Hmm.out (by omega)).mono ?_; rintro r w6 ⟨g, gq, rfl, hR, hb6⟩; have HR6 := Lib.hid hR; have HB6 := Lib.hid (HB5.out.trans (hb6.mono HB5.out.size)); have HD6 := Lib.hid (row_below HD4.out (below_only HA5.out hb6)); have HC6 := Lib.hid (show CRow w6 gC L dc from row_below HC4.out (below_only HA5.out hb6)); have HX6 := Lib.hid (show XRow w6 gX L dx from row_below HX4.out (below_only HA5.out hb6)); obtain ⟨d0, d1, d2, df0, df1, df2⟩ := box3 HD6.out; have hlt6 := lt_of_heap HD6.out; clear hb6 hR))
      go_ret
      have hlow := HR6.out.low
      have hlowq := HR6.out.lowq
      rw [hsz5] at hlow hlowq
      have hlc4 := lt_of_heap HC4.out
      have hlx4 := lt_of_heap HX4.out
      have hld4 := lt_of_heap HD4.out
      have hD := row_set (i := 2) HD6.out (.pointer (some ⟨g, 0, none⟩))
      have hK := (Keep.refl [w.heap.size + 1] w6).setCell (p := ⟨w.heap.size + 1, 2, none⟩) (.inl (by simp)) (.pointer (some ⟨g, 0, none⟩))
      have hnew : newS ⟨k, t, i, m⟩ = ⟨L, oneExt ((k : Int) * 64 + i) m⟩ := by
        rw [← HL.out]
        obtain ⟨j, rfl⟩ : ∃ j, k = j + 1 := ⟨k - 1, by omega⟩
        simp only [newS, Int.toNat_natCast, Nat.add_sub_cancel, List.replicate_succ, List.set_cons_zero]
      have hlen : L.length = k := by rw [← HL.out]; simp
      have f8 : ((k : Int) * 64 + i) % 8 = 0 := by have := H9.out; omega
      refine ⟨w.heap.size + 1, gC, gX, g, gq, cC, cX, dc, dx, List.replicate mm true, rfl, ?_, HB6.out.setCell (p := ⟨w.heap.size + 1, 2, none⟩) (by dsimp only; omega) _⟩
      rw [hnew]
      exact {
        hd := by rw [hlen]; simpa using hD
        rowc := hK.row HC6.out (by simp; omega)
        rowx := hK.row HX6.out (by simp; omega)
        rg := by
          have := HR6.out.kept hK (by simp; omega) (by simp; omega)
          exact { this with low := by omega, lowq := by omega }
        tw := Twin.new f8 Hmm.out
        ap := ⟨⟨by omega, by omega, by omega, by omega⟩, ⟨hneq, by omega, by omega⟩, ⟨by omega, by omega⟩, fun e => HR6.out.ne e.symm⟩
        low := ⟨by omega, by omega, by omega⟩
        n1 := by rw [hlen]; omega
        n8 := by rw [hlen]; omega
        ncc := by rw [hlen]; exact ⟨hncC, hcmC, hncX, hcmX⟩
        ok := fun s hs => by
          rw [← HL.out] at hs
          rcases mem_set_or hs with rfl | hs
          · exact ⟨(by decide : Right ⟨2, 1, -1, 0⟩), by dsimp only; omega, by dsimp only; omega⟩
          · rw [List.mem_replicate] at hs
            rw [hs.2]
            exact ⟨⟨by decide, by decide, .inl ⟨.inl rfl, rfl, rfl⟩⟩, by decide, by decide⟩ }

end Go.Proofs.Ythedndejlfkknaa
