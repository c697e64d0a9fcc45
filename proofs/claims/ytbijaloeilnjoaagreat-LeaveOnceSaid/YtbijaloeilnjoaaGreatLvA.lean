/- Layer 18: one who leaves in memory; the walks of place, load, put, further, on, zeros. (Printed by gen_lva.py.) -/
import Derived.Test.YtbijaloeilnjoaaGreatLvC
import Derived.Test.YtbijaloeilnjoaaGreatLvT
import Derived.Test.YtbijaloeilnjoaaGreatFound
import Derived.Defers
import Derived.BigQuiet
namespace Go.Proofs.YtbijaloeilnjoaaGreat
open Go.RowKit
set_option linter.unusedVariables false
set_option linter.unusedSimpArgs false

abbrev lvPre (p : Nat) (s t i h : Int) (fA : Option Addr) (fn fc : Nat) : Array Value := #[.int .i64 s, .int .i64 t, .int .i64 i, .int .i64 h, .slice fA fn fc, .pointer (some ⟨p, 0, none⟩)]
abbrev Lvr (w : World) (g p : Nat) (s t i h : Int) (fA : Option Addr) (fn fc : Nat) (r : Rn) : Prop := w.heap[g]? = some (.cells (preArr (lvPre p s t i h fA fn fc) r.arr) 104 (0, 0))
section
variable {w : World} {g p : Nat} {s t i h : Int} {fA : Option Addr} {fn fc : Nat} {r : Rn}
theorem Lvr.lo (H : Lvr w g p s t i h fA fn fc r) (n : Nat) (v : Value) (hn : (lvPre p s t i h fA fn fc)[n]? = some v) : w.cell? ⟨g, n, none⟩ = some v := by
 rw [row_cell H, pre_low _ _ _ (by rcases Nat.lt_or_ge n (lvPre p s t i h fA fn fc).size with h1 | h1; exact h1; rw [Array.getElem?_eq_none h1] at hn; cases hn), hn]
theorem Lvr.hi (H : Lvr w g p s t i h fA fn fc r) (n j : Nat) (v : Value) (hn : n = 6 + j) (hj : r.arr[j]? = some v) : w.cell? ⟨g, n, none⟩ = some v := by
 rw [row_cell H, pre_get (lvPre p s t i h fA fn fc) _ n j hn, hj]
theorem lv_box (H : Lvr w g p s t i h fA fn fc r) :
  w.cell? ⟨g, 0, none⟩ = some (.int .i64 s) ∧ w.cell? ⟨g, 1, none⟩ = some (.int .i64 t) ∧ w.cell? ⟨g, 2, none⟩ = some (.int .i64 i) ∧ w.cell? ⟨g, 3, none⟩ = some (.int .i64 h) ∧ w.cell? ⟨g, 4, none⟩ = some (.slice fA fn fc) ∧ w.cell? ⟨g, 5, none⟩ = some (.pointer (some ⟨p, 0, none⟩)) ∧ w.cell? ⟨g, 13, none⟩ = some (.int .i64 r.pc) ∧ w.cell? ⟨g, 14, none⟩ = some (.int .i64 r.area) ∧ w.cell? ⟨g, 18, none⟩ = some (.int .u64 r.word) ∧ w.cell? ⟨g, 19, none⟩ = some (.int .u64 r.next) ∧ w.cell? ⟨g, 20, none⟩ = some (.int .i64 r.at_) ∧ w.cell? ⟨g, 21, none⟩ = some (.int .i64 r.top) ∧ w.cell? ⟨g, 22, none⟩ = some (r.list.v) ∧ w.cell? ⟨g, 23, none⟩ = some (.int .i64 r.op) ∧ w.cell? ⟨g, 24, none⟩ = some (r.said.v) ∧ w.cell? ⟨g, 25, none⟩ = some (.int .i64 r.n) ∧ w.cell? ⟨g, 26, none⟩ = some (.bool r.held) ∧ w.frozen? ⟨g, 13, none⟩ = false ∧ w.frozen? ⟨g, 18, none⟩ = false ∧ w.frozen? ⟨g, 19, none⟩ = false ∧ w.frozen? ⟨g, 20, none⟩ = false ∧ w.frozen? ⟨g, 21, none⟩ = false ∧ w.frozen? ⟨g, 22, none⟩ = false ∧ w.frozen? ⟨g, 23, none⟩ = false ∧ w.frozen? ⟨g, 24, none⟩ = false ∧ w.frozen? ⟨g, 25, none⟩ = false ∧ w.frozen? ⟨g, 26, none⟩ = false ∧ g < w.heap.size :=
 ⟨H.lo 0 _ rfl, H.lo 1 _ rfl, H.lo 2 _ rfl, H.lo 3 _ rfl, H.lo 4 _ rfl, H.lo 5 _ rfl, H.hi 13 7 _ rfl rfl, H.hi 14 8 _ rfl rfl, H.hi 18 12 _ rfl rfl, H.hi 19 13 _ rfl rfl, H.hi 20 14 _ rfl rfl, H.hi 21 15 _ rfl rfl, H.hi 22 16 _ rfl rfl, H.hi 23 17 _ rfl rfl, H.hi 24 18 _ rfl rfl, H.hi 25 19 _ rfl rfl, H.hi 26 20 _ rfl rfl, row_frozen H 13, row_frozen H 18, row_frozen H 19, row_frozen H 20, row_frozen H 21, row_frozen H 22, row_frozen H 23, row_frozen H 24, row_frozen H 25, row_frozen H 26, lt_of_heap H⟩
theorem lv_sub (j : Nat) (v : Value) (hv : r.arr[j]? = some v) : (preArr (lvPre p s t i h fA fn fc) r.arr)[6 + j]? = some v := by
 rw [pre_get (lvPre p s t i h fA fn fc) _ (6 + j) j rfl]; exact hv
theorem Lvr.set_pc (H : Lvr w g p s t i h fA fn fc r) (x : Int) : Lvr (w.setCell ⟨g, 13, none⟩ (.int .i64 x)) g p s t i h fA fn fc { r with pc := x } := by
 have h := row_set (i := 13) H (.int .i64 x)
 rw [pre_set _ _ 13 7 _ rfl] at h
 exact h
theorem Lvr.set_word (H : Lvr w g p s t i h fA fn fc r) (x : Int) : Lvr (w.setCell ⟨g, 18, none⟩ (.int .u64 x)) g p s t i h fA fn fc { r with word := x } := by
 have h := row_set (i := 18) H (.int .u64 x)
 rw [pre_set _ _ 18 12 _ rfl] at h
 exact h
theorem Lvr.set_next (H : Lvr w g p s t i h fA fn fc r) (x : Int) : Lvr (w.setCell ⟨g, 19, none⟩ (.int .u64 x)) g p s t i h fA fn fc { r with next := x } := by
 have h := row_set (i := 19) H (.int .u64 x)
 rw [pre_set _ _ 19 13 _ rfl] at h
 exact h
theorem Lvr.set_at_ (H : Lvr w g p s t i h fA fn fc r) (x : Int) : Lvr (w.setCell ⟨g, 20, none⟩ (.int .i64 x)) g p s t i h fA fn fc { r with at_ := x } := by
 have h := row_set (i := 20) H (.int .i64 x)
 rw [pre_set _ _ 20 14 _ rfl] at h
 exact h
end
set_option maxRecDepth 100000 in
set_option maxHeartbeats 2000000 in
theorem lvPlace_any (g p : Nat) (s t i h : Int) (fA : Option Addr) (fn fc : Nat) (part : Int) (r : Rn) (w : World) (H : PlanOk s t i h) (hT : Lvr w g p s t i h fA fn fc r) (hp : 0 ≤ part ∧ part ≤ 4) (hs : 0 ≤ r.area ∧ r.area ≤ s - 1) :
  Calls Tryz.prog 126 #[.pointer (some ⟨g, 0, none⟩), .int .i64 part] w fun e w' => e = .returned (.int .i64 (64 * r.area + 8 * part)) ∧ Below w.heap.size w w' := by
 have HP := fun w => Lib.hid (planAt_any s t i h part r.area w H hp hs)
 obtain ⟨m, Hm⟩ : ∃ m, Hid (64 * r.area + 8 * part = m) := ⟨_, Lib.hid rfl⟩
 rw [Hm.out]
 simp only [Hm.out] at HP
 have HT := Lib.hid hT
 clear H hT hp hs
 go_enter Tryz.func126, Tryz.ntmps126
 go_wp2_with fail
 refine wp_region_held_drew (S := fun W => Lvr W g p s t i h fA fn fc r) (by kernel_rfl) (show Lvr w.drew g p s t i h fA fn fc r from HT.out) ?_
 intro hS
 have hB0 : Below w.heap.size w w.drew := by go_grown
 generalize w.drew = y0 at hS hB0 ⊢
 refine tk (i := 0) (v := ?v0x1) (some 8) rfl rfl (Or.inl ⟨by kernel_rfl, ?h0x1⟩) ?r0x1
 case h0x1 => (intro w hSw; have b9 := lv_box hSw; go_simp; first | done | (with_reducible rfl))
 try simp only [zA, zB, zC, zD, zE]
 refine tk (i := 1) (v := ?v1x2) (some 9) rfl rfl (Or.inl ⟨by kernel_rfl, ?h1x2⟩) ?r1x2
 case h1x2 => (intro w hSw; have b9 := lv_box hSw; go_simp; first | done | (with_reducible rfl))
 try simp only [zA, zB, zC, zD, zE]
 refine tk (i := 2) (v := ?v2x3) (some 10) rfl rfl (Or.inl ⟨by kernel_rfl, ?h2x3⟩) ?r2x3
 case h2x3 => (intro w hSw; have b9 := lv_box hSw; go_simp; first | done | (with_reducible rfl))
 try simp only [zA, zB, zC, zD, zE]
 refine tk (i := 3) (v := ?v3x4) (some 11) rfl rfl (Or.inl ⟨by kernel_rfl, ?h3x4⟩) ?r3x4
 case h3x4 => (intro w hSw; have b9 := lv_box hSw; go_simp; first | done | (with_reducible rfl))
 try simp only [zA, zB, zC, zD, zE]
 refine tk (i := 4) (v := ?v4x5) (some 12) rfl rfl (Or.inl ⟨by kernel_rfl, ?h4x5⟩) ?r4x5
 case h4x5 => (intro w hSw; have b9 := lv_box hSw; go_simp; first | done | (with_reducible rfl))
 try simp only [zA, zB, zC, zD, zE]
 refine tk (i := 5) (v := ?v5x6) (some 13) rfl rfl (Or.inl ⟨by kernel_rfl, ?h5x6⟩) ?r5x6
 case h5x6 => (intro w hSw; have b9 := lv_box hSw; go_simp; first | done | (with_reducible rfl))
 try simp only [zA, zB, zC, zD, zE]
 refine tk (i := 6) (v := ?v6x7) (some 14) rfl rfl (Or.inl ⟨by kernel_rfl, ?h6x7⟩) ?r6x7
 case h6x7 => (intro w hSw; have b9 := lv_box hSw; go_simp; first | done | (with_reducible rfl))
 try simp only [zA, zB, zC, zD, zE]
 refine tk (i := 7) (v := ?v7x8) (some 15) rfl rfl (Or.inl ⟨by kernel_rfl, ?h7x8⟩) ?r7x8
 case h7x8 => (intro w hSw; have b9 := lv_box hSw; go_simp; first | done | (with_reducible rfl))
 try simp only [zA, zB, zC, zD, zE]
 refine tk (i := 8) (v := ?v8x9) (some 16) rfl rfl (Or.inl ⟨by kernel_rfl, ?h8x9⟩) ?r8x9
 case h8x9 => (intro w hSw; have b9 := lv_box hSw; go_simp; first | done | (with_reducible rfl))
 try simp only [zA, zB, zC, zD, zE]
 refine tk (i := 9) (v := ?v9x10) (some 17) rfl rfl (Or.inl ⟨by kernel_rfl, ?h9x10⟩) ?r9x10
 case h9x10 => (intro w hSw; have b9 := lv_box hSw; go_simp; first | done | (with_reducible rfl))
 try simp only [zA, zB, zC, zD, zE]
 refine wpAnyH_ready (rs := [10]) (by kernel_rfl) (by simp) ?_
 refine AllReadyH.cons rfl (fun K hK => ?_) AllReadyH.nil
 go_simp
 refine (HP _).out.mono ?_
 rintro e' y1 ⟨rfl, hb⟩
 go_simp
 replace hB0 := below_only hB0 hb
 refine hK.out _ _ (row_below hS hb) (fun hS => ?_)
 clear hK K
 try simp only [zA, zB, zC, zD, zE]
 refine tk (i := 11) (v := ?v11x11) (some 7) rfl rfl (Or.inl ⟨by kernel_rfl, ?h11x11⟩) ?r11x11
 case h11x11 => (intro w hSw; have b9 := lv_box hSw; go_simp; first | done | (with_reducible rfl))
 try simp only [zA, zB, zC, zD, zE]
 refine tk (i := 12) (v := ?v12x12) (some 19) rfl rfl (Or.inl ⟨by kernel_rfl, ?h12x12⟩) ?r12x12
 case h12x12 => (intro w hSw; have b9 := lv_box hSw; go_simp; first | done | (with_reducible rfl))
 try simp only [zA, zB, zC, zD, zE]
 refine tk (i := 13) (v := ?v13x13) (some 20) rfl rfl (Or.inl ⟨by kernel_rfl, ?h13x13⟩) ?r13x13
 case h13x13 => (intro w hSw; have b9 := lv_box hSw; go_simp; first | done | (with_reducible rfl))
 try simp only [zA, zB, zC, zD, zE]
 refine tk (i := 14) (v := ?v14x14) (some 5) rfl rfl (Or.inl ⟨by kernel_rfl, ?h14x14⟩) ?r14x14
 case h14x14 => (intro w hSw; have b9 := lv_box hSw; go_simp; first | done | (with_reducible rfl))
 try simp only [zA, zB, zC, zD, zE]
 refine tk (i := 15) (v := ?v15x15) (some 6) rfl rfl (Or.inl ⟨by kernel_rfl, ?h15x15⟩) ?r15x15
 case h15x15 => (intro w hSw; have b9 := lv_box hSw; go_simp; first | done | (with_reducible rfl))
 try simp only [zA, zB, zC, zD, zE]
 refine wpAnyH_done (by kernel_rfl) ?_ _
 go_wp2_with fail
 go_ret
 exact ⟨rfl, hB0⟩
set_option maxRecDepth 100000 in
set_option maxHeartbeats 2000000 in
theorem lvLoad_any (g p : Nat) (s t i h : Int) (fA : Option Addr) (fn fc : Nat) (b : Nat) (part : Int) (ws : List Int) (k : Nat) (x : Int) (r : Rn) (w : World) (H : PlanOk s t i h) (hT : Lvr w g p s t i h fA fn fc r) (hA : Arn w p b ws) (hk : ws[k]? = some x) (ha : (k : Int) = 8 * r.area + part) (hp : 0 ≤ part ∧ part ≤ 4) (hs : 0 ≤ r.area ∧ r.area ≤ s - 1) :
  Calls Tryz.prog 123 #[.pointer (some ⟨g, 0, none⟩), .int .i64 part] w fun e w' => e = .returned (.int .u64 x) ∧ Below w.heap.size w w' := by
 have HP := fun w' (h' : Lvr w' g p s t i h fA fn fc r) => Lib.hid (lvPlace_any g p s t i h fA fn fc part r w' H h' hp hs)
 have HW := fun w' (h : Arn w' p b ws) => Lib.hid (arnWord_any p b ws k x w' h hk)
 obtain ⟨m, Hm⟩ : ∃ m, Hid (((k * 8 : Nat) : Int) = m) := ⟨_, Lib.hid rfl⟩
 have He := show 64 * r.area + 8 * part = m by rw [← Hm.out]; omega
 simp only [Hm.out] at HW
 simp only [He] at HP
 have HT := Lib.hid hT
 have HA := Lib.hid hA
 clear H hT hA hk ha hp hs He Hm
 go_enter Tryz.func123, Tryz.ntmps123
 go_wp2_with fail
 refine wp_region_held_drew (S := fun W => Lvr W g p s t i h fA fn fc r) (by kernel_rfl) (show Lvr w.drew g p s t i h fA fn fc r from HT.out) ?_
 intro hS
 have hB0 : Below w.heap.size w w.drew := by go_grown
 have hA0 : Arn w.drew p b ws := HA.out.drew
 generalize w.drew = y0 at hS hB0 hA0 ⊢
 refine tk (i := 0) (v := ?v0x16) (some 8) rfl rfl (Or.inl ⟨by kernel_rfl, ?h0x16⟩) ?r0x16
 case h0x16 => (intro w hSw; have b9 := lv_box hSw; go_simp; first | done | (with_reducible rfl))
 try simp only [zA, zB, zC, zD, zE]
 refine tk (i := 1) (v := ?v1x17) (some 9) rfl rfl (Or.inl ⟨by kernel_rfl, ?h1x17⟩) ?r1x17
 case h1x17 => (intro w hSw; have b9 := lv_box hSw; go_simp; first | done | (with_reducible rfl))
 try simp only [zA, zB, zC, zD, zE]
 refine tk (i := 2) (v := ?v2x18) (some 10) rfl rfl (Or.inl ⟨by kernel_rfl, ?h2x18⟩) ?r2x18
 case h2x18 => (intro w hSw; have b9 := lv_box hSw; go_simp; first | done | (with_reducible rfl))
 try simp only [zA, zB, zC, zD, zE]
 refine tk (i := 3) (v := ?v3x19) (some 11) rfl rfl (Or.inl ⟨by kernel_rfl, ?h3x19⟩) ?r3x19
 case h3x19 => (intro w hSw; have b9 := lv_box hSw; go_simp; first | done | (with_reducible rfl))
 try simp only [zA, zB, zC, zD, zE]
 refine tk (i := 4) (v := ?v4x20) (some 12) rfl rfl (Or.inl ⟨by kernel_rfl, ?h4x20⟩) ?r4x20
 case h4x20 => (intro w hSw; have b9 := lv_box hSw; go_simp; first | done | (with_reducible rfl))
 try simp only [zA, zB, zC, zD, zE]
 refine tk (i := 5) (v := ?v5x21) (some 13) rfl rfl (Or.inl ⟨by kernel_rfl, ?h5x21⟩) ?r5x21
 case h5x21 => (intro w hSw; have b9 := lv_box hSw; go_simp; first | done | (with_reducible rfl))
 try simp only [zA, zB, zC, zD, zE]
 refine wpAnyH_ready (rs := [6]) (by kernel_rfl) (by simp) ?_
 refine AllReadyH.cons rfl (fun K hK => ?_) AllReadyH.nil
 go_simp
 refine (HP _ hS).out.mono ?_
 rintro e' y1 ⟨rfl, hb⟩
 go_simp
 replace hB0 := below_only hB0 hb
 replace hA0 := hA0.below hb
 refine hK.out _ _ (row_below hS hb) (fun hS => ?_)
 clear hK K
 try simp only [zA, zB, zC, zD, zE]
 clear hb
 refine wpAnyH_ready (rs := [7]) (by kernel_rfl) (by simp) ?_
 refine AllReadyH.cons rfl (fun K hK => ?_) AllReadyH.nil
 go_simp
 refine (HW _ hA0).out.mono ?_
 rintro e' y2 ⟨rfl, e2⟩
 rw [e2]
 clear e2 y2
 go_simp
 refine hK.out _ _ (hS) (fun hS => ?_)
 clear hK K
 try simp only [zA, zB, zC, zD, zE]
 refine tk (i := 8) (v := ?v8x22) (some 7) rfl rfl (Or.inl ⟨by kernel_rfl, ?h8x22⟩) ?r8x22
 case h8x22 => (intro w hSw; have b9 := lv_box hSw; go_simp; first | done | (with_reducible rfl))
 try simp only [zA, zB, zC, zD, zE]
 refine tk (i := 9) (v := ?v9x23) (some 16) rfl rfl (Or.inl ⟨by kernel_rfl, ?h9x23⟩) ?r9x23
 case h9x23 => (intro w hSw; have b9 := lv_box hSw; go_simp; first | done | (with_reducible rfl))
 try simp only [zA, zB, zC, zD, zE]
 refine tk (i := 10) (v := ?v10x24) (some 17) rfl rfl (Or.inl ⟨by kernel_rfl, ?h10x24⟩) ?r10x24
 case h10x24 => (intro w hSw; have b9 := lv_box hSw; go_simp; first | done | (with_reducible rfl))
 try simp only [zA, zB, zC, zD, zE]
 refine tk (i := 11) (v := ?v11x25) (some 5) rfl rfl (Or.inl ⟨by kernel_rfl, ?h11x25⟩) ?r11x25
 case h11x25 => (intro w hSw; have b9 := lv_box hSw; go_simp; first | done | (with_reducible rfl))
 try simp only [zA, zB, zC, zD, zE]
 refine tk (i := 12) (v := ?v12x26) (some 6) rfl rfl (Or.inl ⟨by kernel_rfl, ?h12x26⟩) ?r12x26
 case h12x26 => (intro w hSw; have b9 := lv_box hSw; go_simp; first | done | (with_reducible rfl))
 try simp only [zA, zB, zC, zD, zE]
 refine wpAnyH_done (by kernel_rfl) ?_ _
 go_wp2_with fail
 go_ret
 exact ⟨rfl, hB0⟩
set_option maxRecDepth 100000 in
set_option maxHeartbeats 2000000 in
theorem lvPut_any (g p : Nat) (s t i h : Int) (fA : Option Addr) (fn fc : Nat) (b : Nat) (part x : Int) (ws : List Int) (k : Nat) (y : Int) (r : Rn) (w : World) (H : PlanOk s t i h) (hT : Lvr w g p s t i h fA fn fc r) (hA : Arn w p b ws) (hgb : g ≠ b) (hk : ws[k]? = some y) (ha : (k : Int) = 8 * r.area + part) (hp : 0 ≤ part ∧ part ≤ 4) (hs : 0 ≤ r.area ∧ r.area ≤ s - 1) (hx : 0 ≤ x ∧ x < 18446744073709551616) :
  Calls Tryz.prog 138 #[.pointer (some ⟨g, 0, none⟩), .int .i64 part, .int .u64 x] w fun e w' => e = .returned (.tuple #[]) ∧ Lvr w' g p s t i h fA fn fc r ∧ Arn w' p b (ws.set k x) ∧ Keep [b] w w' := by
 have HP := fun w' (h' : Lvr w' g p s t i h fA fn fc r) => Lib.hid (lvPlace_any g p s t i h fA fn fc part r w' H h' hp hs)
 have HW := fun w' (h : Arn w' p b ws) => Lib.hid (arnPut_any p b ws k y x w' h hk hx)
 obtain ⟨m, Hm⟩ : ∃ m, Hid (((k * 8 : Nat) : Int) = m) := ⟨_, Lib.hid rfl⟩
 have He := show 64 * r.area + 8 * part = m by rw [← Hm.out]; omega
 simp only [Hm.out] at HW
 simp only [He] at HP
 have HT := Lib.hid hT
 have HA := Lib.hid hA
 have HG := Lib.hid hgb
 clear H hT hA hk ha hp hs He Hm hgb hx
 go_enter Tryz.func138, Tryz.ntmps138
 go_wp2_with fail
 refine wp_region_held_drew (S := fun W => Lvr W g p s t i h fA fn fc r) (by kernel_rfl) (show Lvr w.drew g p s t i h fA fn fc r from HT.out) ?_
 intro hS
 have hB0 : Keep [b] w w.drew := (Keep.refl _ _).drew
 have hA0 : Arn w.drew p b ws := HA.out.drew
 generalize w.drew = y0 at hS hB0 hA0 ⊢
 refine tk (i := 0) (v := ?v0x27) (some 6) rfl rfl (Or.inl ⟨by kernel_rfl, ?h0x27⟩) ?r0x27
 case h0x27 => (intro w hSw; have b9 := lv_box hSw; go_simp; first | done | (with_reducible rfl))
 try simp only [zA, zB, zC, zD, zE]
 refine tk (i := 1) (v := ?v1x28) (some 7) rfl rfl (Or.inl ⟨by kernel_rfl, ?h1x28⟩) ?r1x28
 case h1x28 => (intro w hSw; have b9 := lv_box hSw; go_simp; first | done | (with_reducible rfl))
 try simp only [zA, zB, zC, zD, zE]
 refine tk (i := 2) (v := ?v2x29) (some 8) rfl rfl (Or.inl ⟨by kernel_rfl, ?h2x29⟩) ?r2x29
 case h2x29 => (intro w hSw; have b9 := lv_box hSw; go_simp; first | done | (with_reducible rfl))
 try simp only [zA, zB, zC, zD, zE]
 refine tk (i := 3) (v := ?v3x30) (some 9) rfl rfl (Or.inl ⟨by kernel_rfl, ?h3x30⟩) ?r3x30
 case h3x30 => (intro w hSw; have b9 := lv_box hSw; go_simp; first | done | (with_reducible rfl))
 try simp only [zA, zB, zC, zD, zE]
 refine tk (i := 4) (v := ?v4x31) (some 10) rfl rfl (Or.inl ⟨by kernel_rfl, ?h4x31⟩) ?r4x31
 case h4x31 => (intro w hSw; have b9 := lv_box hSw; go_simp; first | done | (with_reducible rfl))
 try simp only [zA, zB, zC, zD, zE]
 refine tk (i := 5) (v := ?v5x32) (some 11) rfl rfl (Or.inl ⟨by kernel_rfl, ?h5x32⟩) ?r5x32
 case h5x32 => (intro w hSw; have b9 := lv_box hSw; go_simp; first | done | (with_reducible rfl))
 try simp only [zA, zB, zC, zD, zE]
 refine tk (i := 7) (v := ?v7x33) (some 13) rfl rfl (Or.inl ⟨by kernel_rfl, ?h7x33⟩) ?r7x33
 case h7x33 => (intro w hSw; have b9 := lv_box hSw; go_simp; first | done | (with_reducible rfl))
 try simp only [zA, zB, zC, zD, zE]
 refine wpAnyH_ready (rs := [6]) (by kernel_rfl) (by simp) ?_
 refine AllReadyH.cons rfl (fun K hK => ?_) AllReadyH.nil
 go_simp
 refine (HP _ hS).out.mono ?_
 rintro e' y1 ⟨rfl, hb⟩
 go_simp
 replace hB0 := hB0.call hb
 replace hA0 := hA0.below hb
 refine hK.out _ _ (row_below hS hb) (fun hS => ?_)
 clear hK K
 try simp only [zA, zB, zC, zD, zE]
 clear hb
 refine wpAnyH_ready (rs := [8]) (by kernel_rfl) (by simp) ?_
 refine AllReadyH.cons rfl (fun K hK => ?_) AllReadyH.nil
 go_simp
 refine (HW _ hA0).out.mono ?_
 rintro e' y2 ⟨rfl, hA2, hk2⟩
 go_simp
 refine hK.out _ _ (hk2.row hS (by simpa using HG.out)) (fun hS => ?_)
 clear hK K
 try simp only [zA, zB, zC, zD, zE]
 refine wpAnyH_done (by kernel_rfl) ?_ _
 go_wp2_with fail
 go_end0
 exact ⟨rfl, hS, hA2, hB0.trans hk2⟩
end Go.Proofs.YtbijaloeilnjoaaGreat
