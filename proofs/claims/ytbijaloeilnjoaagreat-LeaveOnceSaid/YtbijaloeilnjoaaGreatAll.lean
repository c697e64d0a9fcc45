/- What all threads share, as the document has it: the walks of penfoldref14. -/
import Derived.Test.YtbijaloeilnjoaaGreatMI
import Derived.Test.YtbijaloeilnjoaaGreatMD
import Derived.Test.YtbijaloeilnjoaaGreatGR
import Derived.Test.YtbijaloeilnjoaaGreatRT
namespace Go.Proofs.YtbijaloeilnjoaaGreat
open Go.RowKit
set_option linter.unusedVariables false
set_option linter.unusedSimpArgs false

theorem unpack_word {c : Ctl} (h : Right c) : unpack (word c) = (c, 0) := by
 obtain ⟨h0, h1, h2⟩ := right_word h
 unfold unpack
 rw [h2, if_pos ⟨h, h1⟩]
theorem pack_right {c : Ctl} (h : Right c) : pack c = (word c, 0) := by unfold pack; rw [if_pos h]
theorem word_bd {c : Ctl} (h : Right c) : 0 ≤ word c ∧ word c < 18446744073709551616 := ⟨(right_word h).1, by have := (right_word h).2.1; omega⟩

theorem RArn.drewN {w : World} {q b : Nat} {ws : List Int} (h : RArn w q b ws) (n : Nat) : RArn (w.drewN n) q b ws := ⟨h.box, h.row, h.ok, h.ne, h.small, h.some⟩
theorem RArn.drew {w : World} {q b : Nat} {ws : List Int} (h : RArn w q b ws) : RArn w.drew q b ws := ⟨h.box, h.row, h.ok, h.ne, h.small, h.some⟩
theorem infoCtl4 : (Tryz.prog.info? 61).map (·.size) = some 4 := by kernel_rfl
/-- the document's All: its box X, its arena's box q, its words b -/
structure RAll (w : World) (X q b : Nat) (s t i h : Int) (ws : List Int) : Prop where
 box : ∃ z : Nat × Sl, w.heap[X]? = some (.cells #[.int .i64 s, .int .i64 t, .int .i64 i, .int .i64 h, .slice z.2.a z.2.n z.2.c, .pointer (some ⟨q, 0, none⟩), .pointer (some ⟨z.1, 0, none⟩)] 82 (0, 0))
 arn : RArn w q b ws
 ne : X ≠ b
theorem RAll.drew {w : World} {X q b : Nat} {s t i h : Int} {ws : List Int} (H : RAll w X q b s t i h ws) : RAll w.drew X q b s t i h ws := ⟨H.box, H.arn.drew, H.ne⟩
theorem RAll.below {w w' : World} {X q b : Nat} {s t i h : Int} {ws : List Int} (H : RAll w X q b s t i h ws) (hb : Below w.heap.size w w') : RAll w' X q b s t i h ws := ⟨H.box.imp fun _ h => row_below h hb, H.arn.below hb, H.ne⟩
theorem RAll.kept {w w' : World} {X q b : Nat} {s t i h : Int} {ws : List Int} {S : List Nat} (H : RAll w X q b s t i h ws) (k : Keep S w w') (h1 : X ∉ S) (h2 : q ∉ S) (h3 : b ∉ S) : RAll w' X q b s t i h ws := ⟨H.box.imp fun _ h => k.row h h1, H.arn.kept k h2 h3, H.ne⟩
theorem RAll.put {w w' : World} {X q b : Nat} {s t i h : Int} {ws ws' : List Int} (H : RAll w X q b s t i h ws) (k : Keep [b] w w') (a : RArn w' q b ws') : RAll w' X q b s t i h ws' := ⟨H.box.imp fun _ h => k.row h (by simpa using H.ne), a, H.ne⟩
theorem RAll.cell {w : World} {X q b : Nat} {s t i h : Int} {ws : List Int} (H : RAll w X q b s t i h ws) : w.cell? ⟨X, 5, none⟩ = some (.pointer (some ⟨q, 0, none⟩)) := by
 obtain ⟨gp, h⟩ := H.box
 rw [row_cell h]; rfl

set_option maxRecDepth 100000 in
set_option maxHeartbeats 2000000 in
theorem rallGet_any (X q b : Nat) (s t i h : Int) (ws : List Int) (k : Nat) (x part sc : Int) (w : World) (H : RAll w X q b s t i h ws) (hk : ws[k]? = some x) (ha : (k : Int) = 8 * sc + part) (hp : 0 ≤ part ∧ part ≤ 4) (hs : 0 ≤ sc ∧ sc ≤ 7) :
  Calls Tryz.prog 20 #[.pointer (some ⟨X, 0, none⟩), .int .i64 part, .int .i64 sc] w fun r w' => r = .returned (.int .u64 x) ∧ Below w.heap.size w w' := by
 have c5 := H.cell
 have HA := Lib.hid H.arn
 have HP := Lib.hid hp
 have HS := Lib.hid hs
 have HK := Lib.hid hk
 have He := Lib.hid (show 64 * sc + 8 * part = 8 * (k : Int) by omega)
 clear H hk ha hp hs
 go_enter Tryz.func20, Tryz.ntmps20
 go_wp2_with fail
 go_quiet (first | (go_at_call 24; exact Calls.quiet_of_same (rplanAt_any part sc _ HP.out HS.out)) | (go_at_call 38; exact Calls.quiet_of_same (rarnWord_any q b ws k x _ _ (by first | exact HA.out | exact HA.out.drewN _) HK.out He.out)))
 go_wp2
 go_ret
 exact ⟨rfl, by repeat (first | exact Below.refl _ _ | refine below_drewN ?_ _)⟩

set_option maxRecDepth 100000 in
set_option maxHeartbeats 2000000 in
theorem rallPut_any (X q b : Nat) (s t i h : Int) (ws : List Int) (k : Nat) (x y part sc : Int) (w : World) (H : RAll w X q b s t i h ws) (hk : ws[k]? = some x) (ha : (k : Int) = 8 * sc + part) (hp : 0 ≤ part ∧ part ≤ 4) (hs : 0 ≤ sc ∧ sc ≤ 7) (hy : 0 ≤ y ∧ y < 18446744073709551616) :
  Calls Tryz.prog 39 #[.pointer (some ⟨X, 0, none⟩), .int .i64 part, .int .i64 sc, .int .u64 y] w fun r w' => r = .returned (.tuple #[]) ∧ RAll w' X q b s t i h (ws.set k y) ∧ Keep [b] w w' := by
 have c5 := H.cell
 have HA := Lib.hid H
 have HP := Lib.hid hp
 have HS := Lib.hid hs
 have HK := Lib.hid hk
 have HY := Lib.hid hy
 have He := Lib.hid (show 64 * sc + 8 * part = 8 * (k : Int) by omega)
 clear H hk ha hp hs hy
 go_enter Tryz.func39, Tryz.ntmps39
 go_wp2_with fail
 have hF : ∀ W : World, Keep [b] w W → (RArn W q b ws ∨ RArn W q b (ws.set k y)) → W.cell? ⟨X, 5, none⟩ = some (.pointer (some ⟨q, 0, none⟩)) := fun W hW _ => hW.cell c5 (by simpa using HA.out.ne)
 refine wp_region_held_drew (S := fun W => W.cell? ⟨X, 5, none⟩ = some (.pointer (some ⟨q, 0, none⟩))) (by kernel_rfl) (show w.drew.cell? _ = _ from c5) ?_
 intro hS
 obtain ⟨y0, hy0⟩ : ∃ x, x = w.drew := ⟨_, rfl⟩
 rw [← hy0] at hS ⊢
 have hI : RAll y0 X q b s t i h ws ∧ Keep [b] w y0 := by rw [hy0]; exact ⟨HA.out.drew, (Keep.refl _ _).drew⟩
 clear hy0 c5 hF
 refine wpAnyH_take_at (i := 0) (v := ?v0x1) (some 8) rfl rfl (by kernel_rfl) (by kernel_rfl) (by kernel_rfl) (fun _ _ _ h => h) (Or.inl ⟨by kernel_rfl, ?h0x1⟩) (by assumption) ?r0x1
 case h0x1 => (intro w hSw; (try dsimp only at hSw); go_simp; first | done | (with_reducible rfl))
 try simp only [Act.put, List.setIfInBounds_toArray, List.set_cons_succ, List.set_cons_zero]
 refine wpAnyH_take_at (i := 1) (v := ?v1x2) (some 9) rfl rfl (by kernel_rfl) (by kernel_rfl) (by kernel_rfl) (fun _ _ _ h => h) (Or.inl ⟨by kernel_rfl, ?h1x2⟩) (by assumption) ?r1x2
 case h1x2 => (intro w hSw; (try dsimp only at hSw); go_simp; first | done | (with_reducible rfl))
 try simp only [Act.put, List.setIfInBounds_toArray, List.set_cons_succ, List.set_cons_zero]
 refine wpAnyH_take_at (i := 2) (v := ?v2x3) (some 10) rfl rfl (by kernel_rfl) (by kernel_rfl) (by kernel_rfl) (fun _ _ _ h => h) (Or.inl ⟨by kernel_rfl, ?h2x3⟩) (by assumption) ?r2x3
 case h2x3 => (intro w hSw; (try dsimp only at hSw); go_simp; first | done | (with_reducible rfl))
 try simp only [Act.put, List.setIfInBounds_toArray, List.set_cons_succ, List.set_cons_zero]
 refine wpAnyH_take_at (i := 3) (v := ?v3x4) (some 11) rfl rfl (by kernel_rfl) (by kernel_rfl) (by kernel_rfl) (fun _ _ _ h => h) (Or.inl ⟨by kernel_rfl, ?h3x4⟩) (by assumption) ?r3x4
 case h3x4 => (intro w hSw; (try dsimp only at hSw); go_simp; first | done | (with_reducible rfl))
 try simp only [Act.put, List.setIfInBounds_toArray, List.set_cons_succ, List.set_cons_zero]
 refine wpAnyH_take_at (i := 4) (v := ?v4x5) (some 12) rfl rfl (by kernel_rfl) (by kernel_rfl) (by kernel_rfl) (fun _ _ _ h => h) (Or.inl ⟨by kernel_rfl, ?h4x5⟩) (by assumption) ?r4x5
 case h4x5 => (intro w hSw; (try dsimp only at hSw); go_simp; first | done | (with_reducible rfl))
 try simp only [Act.put, List.setIfInBounds_toArray, List.set_cons_succ, List.set_cons_zero]
 refine wpAnyH_take_at (i := 5) (v := ?v5x6) (some 13) rfl rfl (by kernel_rfl) (by kernel_rfl) (by kernel_rfl) (fun _ _ _ h => h) (Or.inl ⟨by kernel_rfl, ?h5x6⟩) (by assumption) ?r5x6
 case h5x6 => (intro w hSw; (try dsimp only at hSw); go_simp; first | done | (with_reducible rfl))
 try simp only [Act.put, List.setIfInBounds_toArray, List.set_cons_succ, List.set_cons_zero]
 refine wpAnyH_take_at (i := 7) (v := ?v7x7) (some 15) rfl rfl (by kernel_rfl) (by kernel_rfl) (by kernel_rfl) (fun _ _ _ h => h) (Or.inl ⟨by kernel_rfl, ?h7x7⟩) (by assumption) ?r7x7
 case h7x7 => (intro w hSw; (try dsimp only at hSw); go_simp; first | done | (with_reducible rfl))
 try simp only [Act.put, List.setIfInBounds_toArray, List.set_cons_succ, List.set_cons_zero]
 refine wpAnyH_ready (rs := [6]) (by kernel_rfl) (by simp) ?_
 refine AllReadyH.cons rfl (fun K hK => ?_) AllReadyH.nil
 go_simp
 refine (rplanAt_any part sc _ HP.out HS.out).mono ?_
 rintro r y1 ⟨rfl, e1⟩
 rw [e1]
 clear e1 y1
 go_simp
 refine hK.out _ _ (hS) (fun hS => ?_)
 clear hK K
 try simp only [Act.put, List.setIfInBounds_toArray, List.set_cons_succ, List.set_cons_zero]
 refine wpAnyH_ready (rs := [8]) (by kernel_rfl) (by simp) ?_
 refine AllReadyH.cons rfl (fun K hK => ?_) AllReadyH.nil
 go_simp
 refine (rarnPut_any q b ws k x y _ _ hI.1.arn HK.out He.out HY.out).mono ?_
 rintro r yP ⟨rfl, hA, hK2⟩
 have HI2 := Lib.hid (And.intro (hI.1.put hK2 hA) (hI.2.trans hK2))
 clear hA hI hK2
 go_simp
 refine hK.out _ _ (HI2.out.1.cell) (fun hS => ?_)
 clear hK K
 try simp only [Act.put, List.setIfInBounds_toArray, List.set_cons_succ, List.set_cons_zero]
 refine wpAnyH_done (by kernel_rfl) ?_ _
 go_wp2_with fail
 go_end0
 exact ⟨rfl, HI2.out.1, HI2.out.2⟩

set_option maxRecDepth 100000 in
set_option maxHeartbeats 2000000 in
theorem rallTell_any (X q b : Nat) (s t i h : Int) (ws : List Int) (k : Nat) (x sc : Int) (c : Ctl) (w : World) (H : RAll w X q b s t i h ws) (hk : ws[k]? = some x) (ha : (k : Int) = 8 * sc) (hs : 0 ≤ sc ∧ sc ≤ 7) (hc : Right c) :
  Calls Tryz.prog 35 #[.pointer (some ⟨X, 0, none⟩), .int .i64 sc, c.val] w fun r w' => r = .returned (.tuple #[]) ∧ RAll w' X q b s t i h (ws.set k (word c)) ∧ Keep [b] w w' := by
 have HA := Lib.hid H
 have HP := Lib.hid (pack_right hc)
 have HS := Lib.hid hs
 have HK := Lib.hid hk
 have HY := Lib.hid (word_bd hc)
 have He := Lib.hid ha
 obtain ⟨c1, c2, c3, c4⟩ := c
 obtain ⟨v, Hv⟩ : ∃ x, Hid (word ⟨c1, c2, c3, c4⟩ = x) := ⟨_, Lib.hid rfl⟩
 rw [Hv.out] at HP HY ⊢
 clear H hk ha hs hc
 go_enter Tryz.func35, Tryz.ntmps35
 go_wp2_with fail
 refine (rpack_as HP _).mono ?_
 rintro r w1 ⟨rfl, hb⟩
 have B1 : Below w.heap.size w w1 := below_only (by go_grown) hb
 have HB := Lib.hid B1
 clear B1 hb
 go_wp2_with fail
 refine (rallPut_any X q b s t i h ws k x v 0 sc _ (HA.out.below HB.out) HK.out (by have := He.out; omega) (by decide) HS.out HY.out).mono ?_
 rintro r w2 ⟨rfl, hA, hK⟩
 have HI := Lib.hid (And.intro hA ((keep_below HB.out [b]).trans hK))
 clear hA hK
 go_wp2_with fail
 go_end0
 exact ⟨rfl, HI.out.1, HI.out.2⟩

set_option maxRecDepth 100000 in
set_option maxHeartbeats 2000000 in
theorem rallCtl_any (X q b : Nat) (s t i h : Int) (ws : List Int) (k : Nat) (sc : Int) (c : Ctl) (w : World) (H : RAll w X q b s t i h ws) (hc : Right c) (hk : ws[k]? = some (word c)) (ha : (k : Int) = 8 * sc) (hs : 0 ≤ sc ∧ sc ≤ 7) :
  Calls Tryz.prog 28 #[.pointer (some ⟨X, 0, none⟩), .int .i64 sc] w fun r w' => r = .returned c.val ∧ Below w.heap.size w w' := by
 have HA := Lib.hid H
 have HU := Lib.hid (unpack_word hc)
 have HS := Lib.hid hs
 have HY := Lib.hid (word_bd hc)
 have He := Lib.hid ha
 have HK := Lib.hid hk
 obtain ⟨c1, c2, c3, c4⟩ := c
 obtain ⟨v, Hv⟩ : ∃ x, Hid (word ⟨c1, c2, c3, c4⟩ = x) := ⟨_, Lib.hid rfl⟩
 rw [Hv.out] at HU HY HK
 clear H hk ha hs hc
 go_enter Tryz.func28, Tryz.ntmps28
 go_upto_region 1 with fail
 refine one_row w _ _ ?_
 intro W hR hB
 have HR := Lib.hid hR
 have HB := Lib.hid hB
 clear hR hB
 go_wp2_with fail
 refine (rallGet_any X q b s t i h ws k v 0 sc _ (HA.out.below HB.out) HK.out (by have := He.out; omega) (by decide) HS.out).mono ?_
 rintro r w1 ⟨rfl, hb⟩
 have HR1 := Lib.hid (row_below HR.out hb)
 have HB1 := Lib.hid (below_only HB.out hb)
 clear hb HR HB
 go_wp2_with fail
 refine (runpack_as HU HY.out.1 (by have := HY.out.2; omega) _).mono ?_
 rintro r w2 ⟨rfl, hb⟩
 have HB2 := Lib.hid (below_only HB1.out hb)
 have HR2 := Lib.hid (row_below HR1.out hb)
 clear hb HR1 HB1
 go_upto_region 2 with fail
 refine one_row w2 _ _ ?_
 intro w3 hr3 hb3
 have B := below_only HB2.out hb3
 have HR3 := Lib.hid (row_below HR2.out hb3)
 obtain ⟨y0, y1, y2, y3, y0f, y1f, y2f, y3f⟩ := box4 HR3.out
 obtain ⟨x0, x1, x2, x3, _⟩ := box4 hr3
 have zq := lt_of_heap HR3.out
 clear hb3 hr3 HR2 HB2
 go_wp2_with fail
 refine bodyPost_ret (results_cell_row (fn := Tryz.f28) rfl _ _ w.heap.size 61 #[.int .i64 c1, .int .i64 c2, .int .i64 c3, .int .i64 c4] (0, 0) _ rfl (row_four HR3.out) Tryz.underlying61 rfl infoCtl4) rfl ?_
 exact ⟨rfl, by go_grown⟩

end Go.Proofs.YtbijaloeilnjoaaGreat
