/- The walks of the document's Create and Destroy. (Printed by gen_screfb.py.) -/
import Derived.Test.YthedndejlfkknaaRScA
import Derived.StillTailTactics
namespace Go.Proofs.Ythedndejlfkknaa
open Go.RowKit

theorem freeAt_somer {l : List Sc} {K : Nat} {s : Sc} (h : l[K]? = some s) (h0 : s.c.st = 0) (hlow : ∀ j t, j < K → l[j]? = some t → t.c.st ≠ 0) : freeAt l = some K :=
  findIdx_mk h (by simpa using h0) (fun j t hj ht => by simpa using hlow j t hj ht)
theorem freeAt_noner {l : List Sc} (hlow : ∀ j t, j < l.length → l[j]? = some t → t.c.st ≠ 0) : freeAt l = none := by
  cases h : freeAt l with
  | none => rfl
  | some i =>
    obtain ⟨y, h1, h2, h3, _⟩ := findIdx_some h
    exact absurd (by simpa using h3) (hlow i y h2 h1)
theorem RSc.made {B p bc bx g gq cc cx : Nat} {dc dx : List Value} {f e : Int} {S : Sco} {bb bb' : List Bool} {w w' : World} (h : RSc B w p bc bx g gq cc cx dc dx f e S bb) (k : Keep (RT bc bx gq) w w') (l : List Sc) (Fr : List Ext) (hl : l.length = S.l.length) (hc : CRow w' bc l dc) (hx : XRow w' bx l dx) (hr : RG B w' g gq f bb') (ht : Twin f e Fr bb') (ho : ∀ s ∈ l, ScOk s) :
    RSc B w' p bc bx g gq cc cx dc dx f e ⟨l, Fr⟩ bb' :=
  { h with
    hd := by
      have := k.row h.hd (by simp; exact ⟨h.ap.1.1, h.ap.1.2.1, h.ap.1.2.2.2⟩)
      rw [← hl] at this
      exact this
    rowc := hc
    rowx := hx
    rg := hr
    tw := ht
    n1 := by rw [hl]; exact h.n1
    n8 := by rw [hl]; exact h.n8
    ncc := by rw [hl]; exact h.ncc
    ok := ho }
theorem keep_gq {bc bx gq : Nat} {w w' : World} (k : Keep [gq] w w') : Keep (RT bc bx gq) w w' := k.mono fun _ _ hm => by simp at hm; simp [hm]

set_option maxHeartbeats 2000000 in
theorem rcreateS_any (B p bc bx g gq cc cx : Nat) (dc dx : List Value) (f e : Int) (S : Sco) (bb : List Bool) (n : Int) (w : World) (h : RSc B w p bc bx g gq cc cx dc dx f e S bb) (h00 : ∀ s, S.l[0]? = some s → s.c.st ≠ 0) :
    Calls Try.prog 44 #[.pointer (some ⟨p, 0, none⟩), .int .i64 n] w fun r w' => r = .returned (.tuple #[.int .i64 (createS n S).1.1, .int .i64 (createS n S).1.2]) ∧ (∃ bb', RSc B w' p bc bx g gq cc cx dc dx f e (createS n S).2 bb') ∧ Keep (RT bc bx gq) w w' := by
  have HH := Lib.hid h
  have H00 := Lib.hid h00
  clear h00
  cases hin : inB n 1 8192 with
  | false =>
    rw [createS_bad hin]
    have hb : ¬ (1 ≤ n ∧ n ≤ 8192) := by simpa [inB] using hin
    clear h hin
    by_cases h1 : n < 1
    · have d1 : decide (n < 1) = true := decide_eq_true h1
      clear hb
      go_enter Try.func44, Try.ntmps44
      go_wp2
      go_ret2
      exact ⟨rfl, ⟨bb, HH.out⟩, Keep.refl _ _⟩
    · have d1 : decide (n < 1) = false := decide_eq_false h1
      have d2 : decide (8192 < n) = true := decide_eq_true (by omega)
      have d3 : decide (n > 8192) = true := decide_eq_true (by omega)
      clear hb
      go_enter Try.func44, Try.ntmps44
      go_wp2
      go_ret2
      exact ⟨rfl, ⟨bb, HH.out⟩, Keep.refl _ _⟩
  | true =>
    obtain ⟨u0, u1, u8, n0, n6⟩ := up8_ok hin
    have hb : 1 ≤ n ∧ n ≤ 8192 := by simpa [inB] using hin
    obtain ⟨hb1, hb2⟩ := hb
    have d1 : decide (n < 1) = false := decide_eq_false (by omega)
    have d2 : decide (8192 < n) = false := decide_eq_false (by omega)
    have d3 : decide (n > 8192) = false := decide_eq_false (by omega)
    have hu : (n + 7) / 8 * 8 = up8 n := rfl
    have hu1 : 0 ≤ (n + 7) / 8 := by omega
    have hu2 : (n + 7) / 8 ≤ 1024 := by omega
    obtain ⟨c0, c1, c2, _, _, _⟩ := box3 h.hd
    have hn8 := h.n8
    have hn1 := h.n1
    obtain ⟨hc1, hc2, hc3, hc4⟩ := h.ncc
    have U8 := Lib.hid u8
    clear h u8
    go_enter Try.func44, Try.ntmps44
    go_wp2
    go_loopw [6] (fun tt wr => ∃ k : Nat, 1 ≤ k ∧ k ≤ S.l.length ∧ tt = .int .i64 k ∧ (∀ j s, 1 ≤ j → j < k → S.l[j]? = some s → s.c.st ≠ 0) ∧ wr = w) (fun tt _ => S.l.length - (intOf tt).toNat)
    case atStart => exact ⟨1, Nat.le_refl _, hn1, rfl, fun j s h1 h2 => by omega, rfl⟩
    case round =>
      obtain ⟨k, hk1, hkn, rfl, hlow, rfl⟩ := hrel
      have HLow := Lib.hid hlow
      clear hlow
      by_cases hlt : k < S.l.length
      · obtain ⟨s, hs⟩ : ∃ s, S.l[k]? = some s := ⟨_, List.getElem?_eq_getElem hlt⟩
        obtain ⟨q0, q1, q2, q3⟩ := crow_cells HH.out.rowc hs
        have Hs := Lib.hid hs
        have hkk : (k : Int) < (S.l.length : Int) := by omega
        clear hs
        by_cases hst : s.c.st = 0
        · have est : (s.c.st != 0) = false := by rw [hst]; rfl
          have HFr := Lib.hid (freeAt_somer Hs.out hst (fun j t hj ht => by
            rcases Nat.eq_zero_or_pos j with rfl | h0
            · exact H00.out t ht
            · exact HLow.out j t h0 hj ht))
          have Hst := Lib.hid hst
          clear hst
          have hcs := createS_at hin HFr.out Hs.out
          have HR := Lib.hid (fun W (hg : RG B W g gq f bb) => rcarve_any B g gq f e S.F bb (up8 n) W hg HH.out.tw)
          cases hc : (carveF (up8 n) S.F).2.1 with
          | false =>
            rw [if_neg (by rw [hc]; simp)] at hcs
            have HCS := Lib.hid hcs
            clear hcs
            obtain ⟨_, HL2⟩ := carve_false hc
            have HL2 := Lib.hid HL2
            go_wp2_with fail
            refine (HR.out _ HH.out.rg).mono ?_
            rintro r w2 ⟨rfl, ⟨b2, hb2', hR2, hT2⟩, hk2⟩
            rw [hc]
            rw [HL2.out] at hT2
            have K2 := Lib.hid (keep_gq (bc := bc) (bx := bx) hk2)
            have H2 := Lib.hid (HH.out.made K2.out S.l S.F rfl (hk2.row HH.out.rowc (by simpa using HH.out.ap.2.1.2.2)) (hk2.row HH.out.rowx (by simpa using HH.out.ap.2.2.1.2)) hR2 hT2 HH.out.ok)
            clear hk2 hR2 hT2 hb2' c0 c1 c2 q0 q1 q2 q3
            go_wp2_with fail
            go_ret2
            rw [HCS.out]
            exact ⟨rfl, ⟨b2, H2.out⟩, K2.out⟩
          | true =>
            rw [if_pos hc] at hcs
            have HCS := Lib.hid hcs
            clear hcs
            have HG := Lib.hid (carve_got HH.out.tw.can hc)
            go_wp2_with fail
            refine (HR.out _ HH.out.rg).mono ?_
            rintro r w2 ⟨rfl, ⟨b2, hb2', hR2, hT2⟩, hk2⟩
            rw [hc]
            have K2 := Lib.hid (keep_gq (bc := bc) (bx := bx) hk2)
            have H2 := Lib.hid (HH.out.made K2.out S.l _ rfl (hk2.row HH.out.rowc (by simpa using HH.out.ap.2.1.2.2)) (hk2.row HH.out.rowx (by simpa using HH.out.ap.2.2.1.2)) hR2 hT2 HH.out.ok)
            clear hk2 hR2 hT2 hb2' c0 c1 c2 q0 q1 q2 q3
            obtain ⟨d0', d1', d2', _, _, _⟩ := box3 H2.out.hd
            dsimp only at d0' d1' d2'
            obtain ⟨q0', q1', q2', q3'⟩ := crow_cells H2.out.rowc Hs.out
            obtain ⟨x0', x1'⟩ := xrow_cells H2.out.rowx Hs.out
            have f0 := row_frozen H2.out.rowc (k * 4)
            have f1 := row_frozen H2.out.rowx (k * 2)
            have f2 := row_frozen H2.out.rowx (k * 2 + 1)
            obtain ⟨lp, lc, lx, lg, lq⟩ := H2.out.lt
            have hp1 := H2.out.ap.1.1
            have hp2 := H2.out.ap.1.2.1
            have hp3 := H2.out.ap.2.1.1
            go_wp2_with fail
            go_ret2
            rw [HCS.out]
            have hcr := crow_store1 H2.out.rowc Hs.out 1 ((carveF (up8 n) S.F).1, up8 n)
            have hcr2 : CRow (((w2.setCell ⟨bc, k * 4, none⟩ (.int .i64 1)).setCell ⟨bx, k * 2, none⟩ (.int .i64 (carveF (up8 n) S.F).1)).setCell ⟨bx, k * 2 + 1, none⟩ (.int .i64 (up8 n))) bc (S.l.set k ⟨⟨1, s.c.n, s.c.p, s.c.ep⟩, ((carveF (up8 n) S.F).1, up8 n)⟩) dc := by
              simp only [CRow]
              rw [Below.heap_setCell _ _ _ _ (by dsimp only; exact hp3), Below.heap_setCell _ _ _ _ (by dsimp only; exact hp3)]
              exact hcr
            have hxr0 : XRow (w2.setCell ⟨bc, k * 4, none⟩ (.int .i64 1)) bx S.l dx := by
              simp only [XRow]
              rw [Below.heap_setCell _ _ _ _ (by dsimp only; exact Ne.symm hp3)]
              exact H2.out.rowx
            have hxr := xrow_store hxr0 Hs.out ⟨⟨1, s.c.n, s.c.p, s.c.ep⟩, ((carveF (up8 n) S.F).1, up8 n)⟩
            have KK := (((Keep.refl [bc, bx] w2).setCell (p := ⟨bc, k * 4, none⟩) (.inl (by simp)) (.int .i64 1)).setCell (p := ⟨bx, k * 2, none⟩) (.inl (by simp)) (.int .i64 (carveF (up8 n) S.F).1)).setCell (p := ⟨bx, k * 2 + 1, none⟩) (.inl (by simp)) (.int .i64 (up8 n))
            have K3 : Keep (RT bc bx gq) w2 _ := KK.mono (fun i _ hm => by simp at hm; rcases hm with rfl | rfl <;> simp)
            obtain ⟨g1, g2, g3, ⟨g4, g5, g6, g7, g8⟩, _, _, _⟩ := HG.out
            have hf0 := HH.out.rg.f0
            have hf1 := HH.out.rg.f1
            have hfe := HH.out.tw.len
            have hso := HH.out.ok s (List.mem_of_getElem? Hs.out)
            refine ⟨rfl, ⟨b2, H2.out.made K3 _ _ (List.length_set ..) hcr2 hxr (H2.out.rg.kept KK (by simp; exact ⟨Ne.symm H2.out.ap.2.1.2.1, Ne.symm H2.out.ap.2.2.1.1⟩) (by simp; exact ⟨Ne.symm H2.out.ap.2.1.2.2, Ne.symm H2.out.ap.2.2.1.2⟩)) H2.out.tw (fun t ht => (mem_set_or ht).elim (fun e => ?_) (HH.out.ok t))⟩, K2.out.trans K3⟩
            subst e
            obtain ⟨r1, r2, r3⟩ := hso.r
            have hst := Hst.out
            rw [hst] at r3
            exact ⟨⟨r1, r2, .inl ⟨.inr rfl, by simp only; omega, by simp only; omega⟩⟩, by simp only at g4 ⊢; omega, by simp only at g5 g8 ⊢; omega⟩
        · have est : (s.c.st != 0) = true := by simpa using hst
          have Hst := Lib.hid hst
          clear hst
          go_wp2_with fail
          go_roundw
          case rel =>
            refine ⟨k + 1, by omega, hlt, by go_num, fun j t h1 h2 ht => ?_, by first | rfl | trivial⟩
            rcases Nat.lt_or_ge j k with h | h
            · exact HLow.out j t h1 h ht
            · obtain rfl : j = k := by omega
              rw [Hs.out] at ht
              injection ht with ht
              subst ht
              exact Hst.out
          case measure => simp [intOf]; omega
      · have HFr := Lib.hid (freeAt_noner (l := S.l) (fun j t hj ht => by
            rcases Nat.eq_zero_or_pos j with rfl | h0
            · exact H00.out t ht
            · exact HLow.out j t h0 (by omega) ht))
        go_wp2_with fail
        go_ret2
        rw [createS_many hin HFr.out]
        exact ⟨rfl, ⟨bb, HH.out⟩, Keep.refl _ _⟩

set_option maxHeartbeats 2000000 in
theorem rdestroyS_any (B p bc bx g gq cc cx : Nat) (dc dx : List Value) (f e : Int) (S : Sco) (bb : List Bool) (i : Int) (w : World) (h : RSc B w p bc bx g gq cc cx dc dx f e S bb) :
    Calls Try.prog 45 #[.pointer (some ⟨p, 0, none⟩), .int .i64 i] w fun r w' => r = .returned (.int .i64 (destroyS f e i S).1) ∧ (∃ bb', RSc B w' p bc bx g gq cc cx dc dx f e (destroyS f e i S).2 bb') ∧ Keep (RT bc bx gq) w w' := by
  have HI := Lib.hid (ris_any B p bc bx g gq cc cx dc dx f e S bb i w h)
  have HH := Lib.hid h
  cases hin : inS i 1 S with
  | false =>
    rw [destroyS_out hin]
    rw [hin] at HI
    clear h hin
    go_enter Try.func45, Try.ntmps45
    go_wp2_with fail
    refine HI.out.mono ?_
    rintro r w1 ⟨rfl, rfl⟩
    go_wp2_with fail
    go_ret
    exact ⟨rfl, ⟨bb, HH.out⟩, Keep.refl _ _⟩
  | true =>
    obtain ⟨k, s, rfl, hk, hs⟩ := inS_yes hin (by omega)
    rw [destroyS_at hin hs]
    rw [hin] at HI
    obtain ⟨c0, c1, c2, _, _, _⟩ := box3 h.hd
    obtain ⟨q0, q1, q2, q3⟩ := crow_cells h.rowc hs
    obtain ⟨x0, x1⟩ := xrow_cells h.rowx hs
    have hkk : (k : Int) < (S.l.length : Int) := by omega
    have hn8 := h.n8
    obtain ⟨hc1, hc2, hc3, hc4⟩ := h.ncc
    have Hs := Lib.hid hs
    clear h hs hin
    by_cases h0 : s.c.st = 0
    · rw [if_pos h0]
      rw [h0] at q0
      clear h0
      go_enter Try.func45, Try.ntmps45
      go_wp2_with fail
      refine HI.out.mono ?_
      rintro r w1 ⟨rfl, rfl⟩
      go_wp2_with fail
      go_ret
      exact ⟨rfl, ⟨bb, HH.out⟩, Keep.refl _ _⟩
    · rw [if_neg h0]
      have e0 : (s.c.st == 0) = false := by simpa using h0
      by_cases h1 : s.c.st = 1
      · rw [if_pos h1]
        rw [h1] at q0
        clear h0 e0 h1
        have hso := HH.out.ok s (List.mem_of_getElem? Hs.out)
        obtain ⟨r1, r2, _⟩ := hso.r
        have y0 := hso.x0
        have y1 := hso.x1
        clear hso
        have hem0 : 0 ≤ s.c.ep + 1 := by omega
        obtain ⟨⟨ap1, ap2, ap3, ap4⟩, ⟨ap5, ap6, ap7⟩, ⟨ap8, ap9⟩, ap10⟩ := HH.out.ap
        obtain ⟨lp, lc, lx, lg, lq⟩ := HH.out.lt
        go_enter Try.func45, Try.ntmps45
        go_wp2_with fail
        refine HI.out.mono ?_
        rintro r w1 ⟨rfl, rfl⟩
        go_wp2_with fail
        have HHd := Lib.hid (HH.out.below (Below.drew (Below.refl w1.heap.size w1)))
        go_region_held3 (fun W => W.cell? ⟨p, 1, none⟩ = some (.slice (some ⟨bx, 0, none⟩) S.l.length cx) ∧ W.cell? ⟨p, 2, none⟩ = some (.pointer (some ⟨g, 0, none⟩)) ∧ W.cell? ⟨bx, k * 2, none⟩ = some (.int .i64 s.x.1) ∧ W.cell? ⟨bx, k * 2 + 1, none⟩ = some (.int .i64 s.x.2)) (refine And.intro ?_ (And.intro ?_ (And.intro ?_ ?_)) <;> assumption)
          ((go_at_call 79; refine (rgive_any B g gq f e S.F bb s.x.1 s.x.2 _ HHd.out.rg HHd.out.tw ⟨by omega, by omega⟩).mono ?_; rintro r w7 ⟨rfl, ⟨b7, _, hR7, hT7⟩, hk7⟩; have K7 := Lib.hid (keep_gq (bc := bc) (bx := bx) hk7); have H7 := Lib.hid (HHd.out.made K7.out S.l _ rfl (hk7.row HHd.out.rowc (by simpa using ap7)) (hk7.row HHd.out.rowx (by simpa using ap9)) hR7 hT7 HH.out.ok); clear hk7 hR7 hT7; obtain ⟨c0', c1', c2', _, _, _⟩ := box3 H7.out.hd; dsimp only at c0' c1' c2'; obtain ⟨q0', q1', q2', q3'⟩ := crow_cells H7.out.rowc Hs.out; obtain ⟨x0', x1'⟩ := xrow_cells H7.out.rowx Hs.out; have f1 := row_frozen H7.out.rowx (k * 2); have f2 := row_frozen H7.out.rowx (k * 2 + 1); have lx7 := lt_of_heap H7.out.rowx))
        go_wp2
        have hxr := xrow_store H7.out.rowx Hs.out ⟨⟨0, 0, -1, (s.c.ep + 1) % 16777216⟩, (0, 0)⟩
        have KX := ((Keep.refl [bx] w7).setCell (p := ⟨bx, k * 2, none⟩) (.inl (by simp)) (.int .i64 0)).setCell (p := ⟨bx, k * 2 + 1, none⟩) (.inl (by simp)) (.int .i64 0)
        generalize ((w7.setCell ⟨bx, k * 2, none⟩ (.int .i64 0)).setCell ⟨bx, k * 2 + 1, none⟩ (.int .i64 0)) = w8 at hxr KX ⊢
        have hcr8 := KX.row H7.out.rowc (by simpa using ap5)
        have hd8 := KX.row H7.out.hd (by simpa using ap2)
        have HC8 := Lib.hid (show CRow w8 bc S.l dc from hcr8)
        have HD8 := Lib.hid hd8
        have HX8 := Lib.hid hxr
        have HKX := Lib.hid KX
        clear c0' c1' c2' q0' q1' q2' q3' x0' x1' f1 f2 hcr8 hd8 hxr KX c0 c1 c2 q0 q1 q2 q3 x0 x1
        obtain ⟨c0, _, _, _, _, _⟩ := box3 HD8.out
        dsimp only at c0
        obtain ⟨q0, q1, q2, q3⟩ := crow_cells HC8.out Hs.out
        have f0 := row_frozen HC8.out (k * 4)
        have f1 := row_frozen HC8.out (k * 4 + 1)
        have f2 := row_frozen HC8.out (k * 4 + 2)
        have f3 := row_frozen HC8.out (k * 4 + 3)
        have lc8 := lt_of_heap HC8.out
        go_region
        go_wp2
        go_ret
        have hcr := crow_store (heap_drew HC8.out) Hs.out ⟨⟨0, 0, -1, (s.c.ep + 1) % 16777216⟩, (0, 0)⟩
        have KC := (Keep.refl [bc] w8.drew).four (b := bc) (by simp) (k * 4) (k * 4 + 1) (k * 4 + 2) (k * 4 + 3) (.int .i64 0) (.int .i64 0) (.int .i64 (-1)) (.int .i64 ((s.c.ep + 1) % 16777216))
        have KXd : Keep [bx] w7 w8.drew := HKX.out.drew
        have KA : Keep (RT bc bx gq) w7 _ := (KXd.mono (fun i _ hm => by simp at hm; simp [hm])).trans (KC.mono (fun i _ hm => by simp at hm; simp [hm]))
        have hrg := (H7.out.rg.kept KXd (by simpa using Ne.symm ap8) (by simpa using Ne.symm ap9)).kept KC (by simpa using Ne.symm ap6) (by simpa using Ne.symm ap7)
        refine ⟨rfl, ⟨b7, H7.out.made KA _ _ (List.length_set ..) hcr (KC.row (heap_drew HX8.out) (by simpa using Ne.symm ap5)) hrg H7.out.tw (fun t ht => (mem_set_or ht).elim (fun e => ?_) (HH.out.ok t))⟩, ((Keep.refl _ w1).drew.trans K7.out).trans KA⟩
        subst e
        exact ⟨⟨Int.emod_nonneg _ (by decide), by show (s.c.ep + 1) % 16777216 ≤ 16777215; omega, .inl ⟨.inl rfl, rfl, rfl⟩⟩, Int.le_refl _, show (0 : Int) ≤ 131072 by decide⟩
      · rw [if_neg h1]
        have e1 : (s.c.st != 1) = true := by simpa using h1
        clear h0 h1
        go_enter Try.func45, Try.ntmps45
        go_wp2_with fail
        refine HI.out.mono ?_
        rintro r w1 ⟨rfl, rfl⟩
        go_wp2_with fail
        go_ret
        exact ⟨rfl, ⟨bb, HH.out⟩, Keep.refl _ _⟩

end Go.Proofs.Ythedndejlfkknaa
