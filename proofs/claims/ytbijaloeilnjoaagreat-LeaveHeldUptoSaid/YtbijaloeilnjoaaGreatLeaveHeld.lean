/- Layer 18 in plain terms: a scope that its first object's finalizer holds. How long a slice may be whose reading is of a bulk. Layer 18: the walk of LeaveHeld. (Printed by gen_lh18.py.) -/
import Derived.Test.YtbijaloeilnjoaaGreatLw
import Derived.Test.YtbijaloeilnjoaaGreatLO
namespace Go.Proofs.YtbijaloeilnjoaaGreat
open Go.RowKit
set_option linter.unusedVariables false
set_option linter.unusedSimpArgs false

def holdL (l : List (List Fo)) : List (List Fo) := [⟨4, 0, 0⟩] :: l.take 7
def oj0 : Oj := ⟨0, 0, 0, false⟩
theorem holdL_ops {l : List (List Fo)} (h : ∀ p ∈ l, p.length ≤ 8) : ∀ p ∈ holdL l, p.length ≤ 8 := by
 intro p hp
 rcases List.mem_cons.1 hp with rfl | hp
 ·decide
 ·exact h p (List.take_subset _ _ hp)
theorem holdL_ok {l : List (List Fo)} (h : ∀ p ∈ l, ∀ o ∈ p, FoOk o) : ∀ p ∈ holdL l, ∀ o ∈ p, FoOk o := by
 intro p hp o ho
 rcases List.mem_cons.1 hp with rfl | hp
 ·simp only [List.mem_singleton] at ho
  subst ho
  exact ⟨by decide, by decide, by decide, by decide⟩
 ·exact h p (List.take_subset _ _ hp) o ho
theorem alIn_hold {fs fs0 : List (List Fo)} (l : List Oj) (h : fs = holdL (fitL fs0)) : AlIn fs (obsOf l) (c18 1) ⟨3, 0, 0, 4⟩ := by
 subst h
 refine ⟨holdL_ops (fitL_ops _), holdL_ok (fitL_ok _), ?_, obsOf_ok l, by rw [obsOf_len]; omega, obsOf_used l, by decide, by kernel_rfl, ⟨by decide, rfl⟩⟩
 unfold holdL
 simp
 omega
theorem hold_in (l : List (List Fo)) (l1 : List Oj) : 0 ∈ todoR (holdL l) (obsOf (oj0 :: l1)) := by
 refine todoR_in (o := obOf oj0) ?_ ?_
 ·unfold obsOf
  simp
 ·rfl
theorem hold_held (l : List (List Fo)) (l1 : List Oj) : (laFa (holdL l) (obsOf (oj0 :: l1))).held = true ∧ 1 ≤ (todoR (holdL l) (obsOf (oj0 :: l1))).length := by
 have h0 := hold_in l l1
 refine ⟨?_, List.length_pos_iff.2 (List.ne_nil_of_mem h0)⟩
 rw [(laFa_is _ _).2, List.any_eq_true]
 refine ⟨_, List.mem_map.2 ⟨0, h0, rfl⟩, ?_⟩
 have e : (obsOf (oj0 :: l1))[0]? = some (obOf oj0) := by unfold obsOf; simp
 unfold frOf
 rw [e]
 rfl
theorem finGo_sl {ops : List Fo} {P : Int → Prop} (h0 : P 0) : ∀ (f k : Nat) (sl : List Int), (∀ x ∈ sl, P x) → ∀ x ∈ (finGo ops f k sl).sl, P x
 | 0, k, sl, h => h
 | f + 1, k, sl, h => by
  unfold finGo
  cases e : ops[k]? with
  | none => exact h
  | some o =>
   dsimp only
   refine finGo_sl h0 f _ _ (fun x hx => ?_)
   unfold finW at hx
   split at hx
   ·rcases List.mem_or_eq_of_mem_set hx with h1 | h1
    ·exact h x h1
    ·rw [h1]; exact h0
   split at hx
   ·split at hx
    ·rename_i y hy
     rcases List.mem_or_eq_of_mem_set hx with h1 | h1
     ·exact h x h1
     ·rw [h1]; exact h y (List.mem_of_getElem? hy)
    ·exact h x hx
   ·exact h x hx
theorem finAll_ok {fs : List (List Fo)} : ∀ (js : List Nat) (l : List Ob), (∀ o ∈ l, ObOk o) → ∀ o ∈ (finAll fs js l).obs, ObOk o
 | [], l, h => h
 | j :: js, l, h => by
  unfold finAll
  cases e : l[j]? with
  | none => exact h
  | some o =>
   dsimp only
   refine finAll_ok js _ (set_obs (o := o) h ?_)
   have ho := h o (List.mem_of_getElem? e)
   have hl := (finGo_n (fsOf fs o.tg) 8 0 o.sl).2
   exact ⟨by show (fin8 _ 0 o.sl).sl.length ≤ 6; unfold fin8; rw [hl]; exact ho.n, ho.tg, finGo_sl (P := fun x => 0 ≤ x ∧ x ≤ 9223372036854775807) (by decide) 8 0 o.sl ho.sl⟩
/-- who leaves it then -/
theorem alIn_again {fs : List (List Fo)} {obs : List Ob} (I : AlIn fs obs (c18 1) ⟨3, 0, 0, 4⟩) : AlIn fs (laFa fs obs).obs (c18 1) ⟨3, 0, 0, 4⟩ :=
 ⟨I.fs8, I.fok, I.fl, finAll_ok _ _ I.ob, by have := (finAll_n I.f8 (todoR fs obs) obs).2.2; show (finAll fs (todoR fs obs) obs).obs.length ≤ 8; rw [this]; exact I.nobs, by rw [laFa_used I.f8]; exact I.use, I.r0, I.lv, I.dr⟩
end Go.Proofs.YtbijaloeilnjoaaGreat

namespace Go.Proofs.YtbijaloeilnjoaaGreat
open Go.RowKit Go.ChangeShapes Go.WideShapes Go.Deep
set_option linter.unusedVariables false
set_option linter.unusedSimpArgs false

theorem bulk_pos {H : Type} (d : DataW H) : 1 ≤ Rows.uptoBulk d := by
 cases d <;> first | (simp [Rows.uptoBulk]; done) | (rename_i l; cases l <;> simp [Rows.uptoBulk])
theorem bulkAll_len {H : Type} : ∀ l : List (DataW H), l.length ≤ Rows.uptoBulkAll l
 | [] => Nat.zero_le _
 | d :: r => by
  have h1 := bulk_pos d
  have h2 := bulkAll_len r
  rw [List.length_cons]
  simp only [Rows.uptoBulkAll]
  omega
theorem len_small {P : Program} {H : Type} {enc : TypeId × Value → H} {w : World} {base : Nat} {spare : Nat → Bool} {held : Bool} {t e : TypeId} {A : Option Addr} {n c : Nat} {d : DataW H} {p : List MemPlace} (ht : P.underlying t = some (.slice e))
  (h : DataW.Trod enc P w base spare held t (.slice A n c) d p) : n ≤ Rows.uptoBulk d := by
 obtain ⟨fuel, hf⟩ := h
 rcases open_slice ht (by simpa [Value.cells] using hf) with ⟨h0, _⟩ | ⟨a, len, cap, m, k, D, Pl, hcs, _, hl, hm, hmm, hx, _⟩
 ·injection h0 with h0
  injection h0 with hA hn hc
  omega
 ·injection hcs with hcs
  injection hcs with hA hn hc
  injection hx with hx _
  subst hn hx
  have h1 := bulkAll_len ((List.range n).map D)
  simp only [List.length_map, List.length_range] at h1
  simp only [Rows.uptoBulk]
  omega
end Go.Proofs.YtbijaloeilnjoaaGreat

namespace Go.Proofs.YtbijaloeilnjoaaGreat
open Go.RowKit
set_option linter.unusedVariables false
set_option linter.unusedSimpArgs false

theorem own_lit2 {base size n : Nat} {e : TypeId} (w : World) (ds cs : Array Value) (t : TypeId) (xs : List Value) (hs : cs.size = n * size) (hx : cs.toList = xs) (hb : base ≤ w.heap.size + 1 := by omega) (hm : n ≤ maxLen := by simp [maxLen]) : ((w.alloc (.cells ds t)).alloc (.cells cs e)).ownsRow base e size (.slice (some ⟨w.heap.size + 1, 0, none⟩) n n) n xs := by
 have h := World.ownsRow_lit (base := base) (e := e) (size := size) (w.alloc (.cells ds t)) cs n (by simpa using hb) hm hs
 rw [hx] at h
 simpa using h
theorem own_ge_lit {w : World} {cs : Array Value} {t : TypeId} {k : Nat} (h : (Value.slice (some ⟨(w.alloc (.cells cs t)).heap.size, 0, none⟩) 1 1).ownBlock = some k) : w.heap.size ≤ k := by
 simp [Value.ownBlock] at h
 omega
theorem infoOj4h : (Tryz.prog.info? 70).map (fun i => (i.zero, i.size, i.bytes)) = some (some (.agg #[.int .u8 0, .int .u8 0, .int .u8 0, .bool false]), 4, 4) := by kernel_rfl
theorem j_oneh (l : List Oj) : ∀ u ∈ l.flatMap jCells, u.oneCell' = true := by
 intro u hu
 obtain ⟨y, _, hy⟩ := List.mem_flatMap.1 hu
 simp at hy
 rcases hy with rfl | rfl | rfl | rfl <;> rfl
theorem fsl_oneh (l : List FSl) : ∀ u ∈ l.flatMap fslCells, u.oneCell' = true := by
 intro u hu
 obtain ⟨y, _, hy⟩ := List.mem_flatMap.1 hu
 simp at hy
 subst hy
 rfl
/-- what region 12 reads -/
def S12 (g6 g7 nn : Nat) (w : World) : Prop := (w.cell? ⟨g6, 21, none⟩ = some (.bool true) ∧ w.cell? ⟨g6, 23, none⟩ = some (.int .i64 25) ∧ w.cell? ⟨g6, 24, none⟩ = some (.int .i64 (nn : Int))) ∧ (w.cell? ⟨g7, 0, none⟩ = some (.int .i64 2) ∧ w.cell? ⟨g7, 1, none⟩ = some (.int .i64 1) ∧ w.cell? ⟨g7, 2, none⟩ = some (.int .i64 0) ∧ w.cell? ⟨g7, 3, none⟩ = some (.int .i64 4)) ∧ g6 < w.heap.size ∧ g7 < w.heap.size
theorem S12.below {g6 g7 nn : Nat} {w w' : World} (h : S12 g6 g7 nn w) (hb : Below w.heap.size w w') : S12 g6 g7 nn w' := by
 obtain ⟨⟨a, b, c⟩, ⟨d, e, f, g⟩, z6, z7⟩ := h
 exact ⟨⟨(hb.cell (p := ⟨g6, 21, none⟩) z6).trans a, (hb.cell (p := ⟨g6, 23, none⟩) z6).trans b, (hb.cell (p := ⟨g6, 24, none⟩) z6).trans c⟩, ⟨(hb.cell (p := ⟨g7, 0, none⟩) z7).trans d, (hb.cell (p := ⟨g7, 1, none⟩) z7).trans e, (hb.cell (p := ⟨g7, 2, none⟩) z7).trans f, (hb.cell (p := ⟨g7, 3, none⟩) z7).trans g⟩, Nat.lt_of_lt_of_le z6 hb.size, Nat.lt_of_lt_of_le z7 hb.size⟩
set_option maxRecDepth 100000 in
set_option maxHeartbeats 8000000 in
theorem leaveHeld_walk (A0 : Option Addr) (c0 : Nat) (l0 : List FSl) (A1 : Option Addr) (c1 : Nat) (l1 : List Oj) (W : World) (hl0 : l0.length ≤ c0) (hc0 : c0 ≤ maxLen) (he0 : Cells W A0 (l0.flatMap fslCells)) (hq0 : ∀ e ∈ l0, FslOk W e) (hl1 : l1.length ≤ c1) (hc1 : c1 ≤ maxLen) (he1 : Cells W A1 (l1.flatMap jCells)) (hq1 : ∀ e ∈ l1, OjOk e) (hsm : l1.length ≤ 1048576) :
  Calls Tryz.prog 6 #[.slice A0 l0.length c0, .slice A1 l1.length c1] W fun r w' => r = .returned (.bool true) ∧ Below W.heap.size W w' := by
 obtain ⟨i0, hi0, hz0, hz1, hz2⟩ := info_parts infoFOps1
 obtain ⟨k0, hk0, hm0, hm1, hm2⟩ := info_parts infoOj4h
 have HI0 := Lib.hid (finsAt_in he0 hq0)
 have Hq0 := Lib.hid hq0
 have HJ1 := Lib.hid he1
 have HJW := Lib.hid he1
 have Hq1 := Lib.hid hq1
 have Hln := Lib.hid (And.intro (Nat.le_trans hl0 hc0) (Nat.le_trans hl1 hc1))
 have l1I : (l1.length : Int) ≤ 9223372036854775807 := by have := Nat.le_trans hl1 hc1; unfold maxLen at this; omega
 clear hl0 hc0 he0 hq0 hl1 hc1 he1 hq1
 have l1s : (l1.length : Int) ≤ 1048576 := by omega
 go_enter Tryz.func6, Tryz.ntmps6
 go_wp2_with fail
 refine (shown18_any _).mono ?_
 rintro r w1 ⟨rfl, hb⟩
 have HB := Lib.hid hb
 replace HI0 := Lib.hid (HI0.out.below hb)
 replace HJ1 := Lib.hid (Cells.below HJ1.out hb)
 clear hb
 go_wp2_with fail
 refine (fit_any A0 c0 l0 _ HI0.out (fun x hx o ho => ((Hq0.out x hx).o o ho).op) Hln.out.1 (fun x hx => Nat.le_trans (Hq0.out x hx).n.1 (Hq0.out x hx).n.2)).mono ?_
 rintro r w2 ⟨fA, fc, fl, rfl, hft, hb⟩
 have HFt := Lib.hid hft
 replace HJ1 := Lib.hid (Cells.below HJ1.out hb)
 replace HB := Lib.hid (below_only HB.out hb)
 have HBz := Lib.hid HB.out.size
 have HFs : Hid (fsL fl = fitL (fsL l0)) := Lib.hid hft.is
 have HFa : Hid (FinsAt w2 fA fl) := Lib.hid (hft.fins)
 clear hft hb HI0 Hq0
 obtain ⟨_, _, e9, hxn, hxm, hxc⟩ := own_slice HFt.out.own
 injection e9 with e1 e2 e3
 subst e1 e3
 obtain ⟨m, Hm⟩ : ∃ m : Nat, Hid (m = min fl.length 7) := ⟨_, Lib.hid rfl⟩
 have hmin : (if (7 : Int) < (fl.length : Int) then (7 : Int) else (fl.length : Int)) = (m : Int) := by have := Hm.out; split <;> omega
 have m7 : (m : Int) ≤ 7 := by have := Hm.out; omega
 have m0 : (0 : Int) ≤ (m : Int) := by omega
 have mc : (m : Int) ≤ (fc : Int) := by have := Hm.out; omega
 have mcN : m ≤ fc := by have := Hm.out; omega
 have HCl : Hid (Cells w2 fA ((fl.take m).flatMap fslCells)) := Lib.hid (by
  have h9 := Cells.take hxc (m * 1)
  have e9 : (fl.flatMap fslCells).take (m * 1) = (fl.take m).flatMap fslCells := by
   conv => lhs; rw [← List.take_append_drop m fl, List.flatMap_append]
   rw [List.take_left' (by rw [flat_length fslCells 1 (fun _ => rfl)]; simp; have := Hm.out; omega)]
  rwa [e9] at h9)
 have HLn9 : Hid ((fl.take m).length = m) := Lib.hid (by simp; have := Hm.out; omega)
 clear hxn hxm hxc
 go_upto_region 3 with fail
 try simp only [Act.put]
 go_cut [6] from 25 to 33 (fun v wx => ∃ (A9 : Option Addr) (c9 : Nat) (fl9 : List FSl), v = .slice A9 fl9.length c9 ∧ fsL fl9 = holdL (fsL fl) ∧ FinsAt wx A9 fl9 ∧ (∀ b, wx.heap.size ≤ b → FinsOff A9 fl9 b) ∧ Below W.heap.size W wx)
 case first =>
  have hxa : fA = none ∨ ∃ g, fA = some ⟨g, 0, none⟩ := by
   rcases HFt.out.own.2 with ⟨h9, _⟩ | ⟨g, _, _, h9, _⟩
   ·injection h9 with e1 e2 e3; exact .inl e1
   ·injection h9 with e1 e2 e3; exact .inr ⟨g, e1⟩
  rcases hxa with rfl | ⟨gx, rfl⟩
  all_goals
   go_upto_region 4 with (at_builtin; refine wpList_append_any _ rfl (.tmp 27) (.tmp 32) _ (by rfl) w2.heap.size 54 i0 _ 1 24 Tryz.underlying22 hi0 hz0 hz1 hz2 rfl (by omega) (.slice (some ⟨w2.heap.size + 1, 0, none⟩) 1 1) 1 [.slice (some ⟨w2.heap.size, 0, none⟩) 1 1] (by rfl) (own_lit2 w2 _ _ _ _ (by simp) rfl) _ m fc ((fl.take m).flatMap fslCells) (by rfl) (by rw [flat_length fslCells 1 (fun _ => rfl), HLn9.out]) (Cells.below HCl.out (by go_grown)) (fsl_oneh _) (by simp only [maxLen]; omega) (by omega) (by simp; omega) ?_; intro v6 w6 hown6 hg6 hat6)
   obtain ⟨A6, c6, rfl, -, -, hcs6⟩ := own_slice hown6
   have hba : Below w2.heap.size w2 ((w2.alloc (.cells #[.int .u8 4, .int .i64 0, .int .i64 0] 56)).alloc (.cells #[.slice (some ⟨w2.heap.size, 0, none⟩) 1 1] 54)) := by go_grown
   have hrow0 : ((w2.alloc (.cells #[.int .u8 4, .int .i64 0, .int .i64 0] 56)).alloc (.cells #[.slice (some ⟨w2.heap.size, 0, none⟩) 1 1] 54)).heap[w2.heap.size]? = some (.cells #[.int .u8 4, .int .i64 0, .int .i64 0] 56 (0, 0)) := row_alloc (row_new _ _ _)
   have hob : ∀ k, some k = (Value.slice (some ⟨w2.heap.size + 1, 0, none⟩) 1 1).ownBlock → k = w2.heap.size + 1 := fun k hk => by simp [Value.ownBlock] at hk; exact hk
   have hw6 : w2.heap.size < w6.heap.size := Nat.lt_of_lt_of_le (lt_of_heap hrow0) hg6.size
   have HFn : Hid (FinsAt w6 A6 (⟨some ⟨w2.heap.size, 0, none⟩, 1, [⟨4, 0, 0⟩]⟩ :: fl.take m)) := Lib.hid ⟨hcs6, fun x hx => by
    rcases List.mem_cons.1 hx with rfl | hx
    ·exact Cells.grown (cells_of hrow0) hg6 (fun a ha e => by injection ha with ha; subst ha; have := hob _ e; dsimp only at this; omega)
    ·have hx' := List.take_subset _ _ hx
     exact Cells.grown (Cells.below (HFt.out.at_ x hx').e hba) hg6 (fun a ha e => by have h1 := hob _ e; have h2 := ((HFt.out.at_ x hx').lo a ha).2; omega)⟩
   have HFo : Hid (∀ b, w6.heap.size ≤ b → FinsOff A6 (⟨some ⟨w2.heap.size, 0, none⟩, 1, [⟨4, 0, 0⟩]⟩ :: fl.take m) b) := Lib.hid (fun b hb => ⟨fun z hz => by have := own_ltF hown6 z.block (by rw [hz]; rfl); omega, fun x hx z hz => by
    rcases List.mem_cons.1 hx with rfl | hx
    ·injection hz with hz; subst hz; dsimp only; omega
    ·have h2 := ((HFt.out.at_ x (List.take_subset _ _ hx)).lo z hz).2; omega⟩)
   have HFe : Hid (fsL (⟨some ⟨w2.heap.size, 0, none⟩, 1, [⟨4, 0, 0⟩]⟩ :: fl.take m) = holdL (fsL fl)) := Lib.hid (by
    unfold holdL fsL
    rw [List.map_cons, List.map_take]
    congr 1
    have := Hm.out
    by_cases h7 : fl.length ≤ 7
    ·rw [List.take_of_length_le (by simp; omega), List.take_of_length_le (by simp; omega)]
    ·rw [show m = 7 by omega])
   have HBn := Lib.hid (Below.grown (below_only HB.out hba) hg6 (by simp; have := HB.out.size; omega) (fun i hi => by have h9 := hob i hi.symm; have := HBz.out; omega))
   have HLe : Hid ((⟨some ⟨w2.heap.size, 0, none⟩, 1, [⟨4, 0, 0⟩]⟩ :: fl.take m : List FSl).length = 1 + m) := Lib.hid (by rw [List.length_cons, HLn9.out]; omega)
   clear hown6 hg6 hat6 hcs6 hob hrow0 hba
   go_wp2_with fail
   go_meet
   exact ⟨A6, c6, _, by rw [HLe.out], HFe.out, HFn.out, HFo.out, HBn.out⟩
 case rest =>
  obtain ⟨A9, c9, fl9, rfl, hfe, hfn, hfo, hB9⟩ := hcut
  obtain ⟨w3, h⟩ : ∃ x, x = wc := ⟨_, rfl⟩
  subst h
  have HFe := Lib.hid (hfe.trans (congrArg holdL HFs.out))
  have HFa := Lib.hid hfn
  have HFo := Lib.hid hfo
  have HB := Lib.hid hB9
  have HJ1 : Hid (Cells w3 A1 (l1.flatMap jCells)) := Lib.hid (Cells.below HJW.out hB9)
  clear hfe hfn hfo hB9 hmin m7 m0 mc mcN
  go_upto_region 5 with (at_builtin; refine wpList_append_any _ rfl (.tmp 35) (.tmp 36) _ (by rfl) w3.heap.size 70 k0 _ 4 4 Tryz.underlying23 hk0 hm0 hm1 hm2 rfl (by omega) _ 1 (jCells oj0) (by rfl) (World.ownsRow_lit (e := 70) _ _ 1 (Nat.le_refl _) (by simp [maxLen]) rfl) A1 l1.length c1 (l1.flatMap jCells) (by rfl) (flat_length jCells 4 (fun _ => rfl) _) (Cells.alloc HJ1.out _) (j_oneh _) (by simp only [maxLen]; omega) (by omega) (by simp) ?_; intro v6 w6 hown6 hg6 hat6)
  obtain ⟨A8, c8, rfl, -, -, hcs6⟩ := own_slice hown6
  have hb6 : Below w3.heap.size w3 w6 := Below.grown (by go_grown) hg6 (by simp) (fun i hi => by simp [Value.ownBlock] at hi; omega)
  have HRc : Hid (Cells w6 A8 ((oj0 :: l1).flatMap jCells)) := Lib.hid hcs6
  have hLd := laid_any ⟨A9, fl9.length, c9⟩ A8 c8 (oj0 :: l1) 1 w6 (by decide) HRc.out (fun y hy => by
   rcases List.mem_cons.1 hy with rfl | hy
   ·exact ⟨by decide, by decide, by decide⟩
   ·exact Hq1.out y hy) (by rw [List.length_cons]; simp only [maxLen]; omega)
  rw [show (oj0 :: l1).length = 1 + l1.length from by rw [List.length_cons]; omega] at hLd
  have HLd := Lib.hid hLd
  replace HFa := Lib.hid (HFa.out.below hb6)
  replace HFo := Lib.hid (fun b hb => HFo.out b (Nat.le_trans hb6.size hb))
  replace HB := Lib.hid (below_only HB.out hb6)
  have HB6 := Lib.hid HB.out.size
  clear hown6 hg6 hat6 hcs6 hLd hb6 HRc HJ1
  go_wp2_with fail
  refine HLd.out.mono ?_
  rintro r w7 ⟨p, b, X, q, d, rfl, hT, -, hb⟩
  have HT := Lib.hid hT
  replace HB := Lib.hid (below_only HB.out hb)
  replace HFa := Lib.hid (HFa.out.below hb)
  have HOff := Lib.hid (HFo.out b hT.low.2.1)
  have HWb : Hid (W.heap.size ≤ b) := Lib.hid (Nat.le_trans HB6.out hT.low.2.1)
  obtain ⟨obs, Hobs⟩ : ∃ x, Hid (obsOf (oj0 :: l1) = x) := ⟨_, Lib.hid rfl⟩
  have HI : Hid (AlIn (fsL fl9) obs (c18 1) ⟨3, 0, 0, 4⟩) := Lib.hid (by rw [← Hobs.out]; exact alIn_hold _ HFe.out)
  have HHd : Hid ((laFa (fsL fl9) obs).held = true ∧ 1 ≤ (todoR (fsL fl9) obs).length) := Lib.hid (by rw [← Hobs.out, HFe.out]; exact hold_held _ _)
  rw [Hobs.out] at HT
  obtain ⟨tp, Htp⟩ : ∃ x : Int, Hid (8 * (used obs : Int) = x) := ⟨_, Lib.hid rfl⟩
  rw [Htp.out] at HT
  obtain ⟨nn, Hnn⟩ : ∃ x : Nat, Hid ((todoR (fsL fl9) obs).length = x ∧ 1 ≤ x) := ⟨_, Lib.hid ⟨rfl, HHd.out.2⟩⟩
  clear hT hb HLd HFo
  go_wp2_with fail
  refine (alone_any fl9 obs (c18 1) ⟨3, 0, 0, 4⟩ A9 c9 p b _ HI.out (by rw [Htp.out]; exact HT.out.a) HFa.out HOff.out).mono ?_
  rintro r w8 ⟨ch, T, R, rfl, hal, hK⟩
  have hE := hal.ended HI.out
  obtain ⟨obs2, Hobs2⟩ : ∃ x, Hid ((laFa (fsL fl9) obs).obs = x) := ⟨_, Lib.hid rfl⟩
  have HA1 : Hid (Arn w8 p b (wsL (c18 1) tp 99 (extE obs2))) := Lib.hid (by
   have h9 := hE.arn
   rw [ws_held HI.out.f8 HHd.out.1, Htp.out, Hobs2.out] at h9
   exact h9)
  have HDn : Hid (R.done = true ∧ R.code = 25 ∧ R.an = (nn : Int)) := Lib.hid ⟨hE.dn, by rw [hE.co, HHd.out.1]; rfl, by rw [hE.an, Hnn.out.1]⟩
  have HX : Hid (RAll w8 X q d 2 4 0 512 (wsL (c18 1) tp 99 (extE obs))) := Lib.hid (HT.out.x.kept hK (by simpa using HT.out.ne.1) (by simpa using HT.out.ne.2.1) (by simpa using HT.out.ne.2.2.1))
  have HF8 := Lib.hid (HFa.out.kept hK HOff.out)
  have HI2 : Hid (AlIn (fsL fl9) obs2 (c18 1) ⟨3, 0, 0, 4⟩) := Lib.hid (by rw [← Hobs2.out]; exact alIn_again HI.out)
  have HU2 : Hid (8 * (used obs2 : Int) = tp) := Lib.hid (by rw [← Hobs2.out, laFa_used HI.out.f8]; exact Htp.out)
  have HL2 : Hid (laFa (fsL fl9) obs2 = ⟨obs2, [], false, 0⟩ ∧ todoR (fsL fl9) obs2 = []) := Lib.hid (by rw [← Hobs2.out]; exact ⟨laFa_again _ _, todoR_again _ _⟩)
  obtain ⟨N1, HN1⟩ : ∃ x : Nat, Hid (2 + laN (fsL fl9) obs = x) := ⟨_, Lib.hid rfl⟩
  rw [HN1.out]
  replace HB := Lib.hid (Keep.under HB.out hK (by have := HB.out.size; omega) (by simp; exact HWb.out))
  clear hal hK hE HT HFa HHd HN1
  go_upto_region 9 with (refine wpList_store_row rfl 43 (.tmp 10) (.tmp 54) rfl w8.heap.size R.arr rfl rfl 43 ZRun (row_new _ _ _) infoRun rfl (Rn.one _) ?_; (try simp only [zA, zB, zC, zD, zE]))
  refine alloc_set' w8 _ _ _ ?_
  intro w9 hr hb
  obtain ⟨g6, Hg6⟩ : ∃ x, Hid (w8.heap.size = x) := ⟨_, Lib.hid rfl⟩
  rw [Hg6.out] at hr ⊢
  have H6 := Lib.hid hr
  replace HA1 := Lib.hid (HA1.out.below hb)
  replace HX := Lib.hid (HX.out.below hb)
  replace HF8 := Lib.hid (HF8.out.below hb)
  replace HB := Lib.hid (below_only HB.out hb)
  clear hr hb Hg6
  go_wp2_with fail
  refine (plan18_any _).mono ?_
  rintro r w10 ⟨rfl, hb⟩
  replace HA1 := Lib.hid (HA1.out.below hb)
  replace HX := Lib.hid (HX.out.below hb)
  replace HF8 := Lib.hid (HF8.out.below hb)
  replace HB := Lib.hid (below_only HB.out hb)
  replace H6 := Lib.hid (row_below H6.out hb)
  clear hb
  go_wp2_with fail
  refine (foundCtl_any p b 2 4 0 512 _ 8 1 (c18 1) _ plan18 HA1.out (by decide) wsL_c (by decide) (by decide)).mono ?_
  rintro r w11 ⟨rfl, hb⟩
  replace HA1 := Lib.hid (HA1.out.below hb)
  replace HX := Lib.hid (HX.out.below hb)
  replace HF8 := Lib.hid (HF8.out.below hb)
  replace HB := Lib.hid (below_only HB.out hb)
  replace H6 := Lib.hid (row_below H6.out hb)
  clear hb
  go_upto_region 10 with fail
  refine one_row w11 _ _ ?_
  intro w12 hr hb
  obtain ⟨g7, Hg7⟩ : ∃ x, Hid (w11.heap.size = x) := ⟨_, Lib.hid rfl⟩
  rw [Hg7.out] at hr ⊢
  have H7 : Hid (w12.heap[g7]? = some (.cells #[.int .i64 2, .int .i64 1, .int .i64 0, .int .i64 4] 61 (0, 0))) := Lib.hid hr
  replace HA1 := Lib.hid (HA1.out.below hb)
  replace HX := Lib.hid (HX.out.below hb)
  replace HF8 := Lib.hid (HF8.out.below hb)
  replace HB := Lib.hid (below_only HB.out hb)
  replace H6 := Lib.hid (row_below H6.out hb)
  clear hr hb Hg7
  go_wp2_with fail
  refine (rplanAt_any 4 1 _ (by decide) (by decide)).mono ?_
  rintro r w13 ⟨rfl, rfl⟩
  go_wp2_with fail
  refine (arnWord_any p b _ 12 99 _ HA1.out wsL_g).mono ?_
  rintro r w14 ⟨rfl, rfl⟩
  go_wp2_with fail
  refine (rplanAt_any 3 1 _ (by decide) (by decide)).mono ?_
  rintro r w15 ⟨rfl, rfl⟩
  go_wp2_with fail
  refine (arnWord_any p b _ 11 tp _ HA1.out wsL_t).mono ?_
  rintro r w16 ⟨rfl, rfl⟩
  go_upto_region 12 with fail
  try simp only [Act.put]
  have nn1 : ¬ ((nn : Int) < 1) := by have := Hnn.out; omega
  have nn2 : ¬ (nn < 1) := by have := Hnn.out; omega
  have HS : Hid (S12 g6 g7 nn w16) := Lib.hid ⟨⟨by rw [row_cell H6.out, ← HDn.out.1]; rfl, by rw [row_cell H6.out, ← HDn.out.2.1]; rfl, by rw [row_cell H6.out, ← HDn.out.2.2]; rfl⟩, ⟨by rw [row_cell H7.out]; rfl, by rw [row_cell H7.out]; rfl, by rw [row_cell H7.out]; rfl, by rw [row_cell H7.out]; rfl⟩, lt_of_heap H6.out, lt_of_heap H7.out⟩
  clear H6 H7 HDn
  go_cut [104] from 74 to 104 (fun vv wx => vv = .bool false ∧ Below w16.heap.size w16 wx)
  case first =>
   refine wp_region_held_drew (S := S12 g6 g7 nn) (by kernel_rfl) (show S12 g6 g7 nn w16.drew from HS.out) ?_
   intro hS
   have hB0 : Below w16.heap.size w16 w16.drew := Below.drew (Below.refl _ _)
   have hX := HX.out.below hB0
   generalize w16.drew = y0 at hS hX hB0 ⊢
   refine tk (i := 0) (v := ?v0x9) (some 74) rfl rfl (Or.inl ⟨by kernel_rfl, ?h0x9⟩) ?r0x9
   case h0x9 => (intro w' hSw; obtain ⟨⟨q21, q23, q24⟩, ⟨y0, y1, y2, y3⟩, z6, z7⟩ := hSw; go_simp; first | done | (with_reducible rfl))
   try simp only [zA, zB, zC, zD, zE]
   refine tk (i := 1) (v := ?v1x10) (some 75) rfl rfl (Or.inl ⟨by kernel_rfl, ?h1x10⟩) ?r1x10
   case h1x10 => (intro w' hSw; obtain ⟨⟨q21, q23, q24⟩, ⟨y0, y1, y2, y3⟩, z6, z7⟩ := hSw; go_simp; first | done | (with_reducible rfl))
   try simp only [zA, zB, zC, zD, zE]
   refine tk (i := 2) (v := ?v2x11) (some 76) rfl rfl (Or.inl ⟨by kernel_rfl, ?h2x11⟩) ?r2x11
   case h2x11 => (intro w' hSw; obtain ⟨⟨q21, q23, q24⟩, ⟨y0, y1, y2, y3⟩, z6, z7⟩ := hSw; go_simp; first | done | (with_reducible rfl))
   try simp only [zA, zB, zC, zD, zE]
   refine tk (i := 3) (v := ?v3x12) (some 77) rfl rfl (Or.inl ⟨by kernel_rfl, ?h3x12⟩) ?r3x12
   case h3x12 => (intro w' hSw; obtain ⟨⟨q21, q23, q24⟩, ⟨y0, y1, y2, y3⟩, z6, z7⟩ := hSw; go_simp; first | done | (with_reducible rfl))
   try simp only [zA, zB, zC, zD, zE]
   refine tk (i := 4) (v := ?v4x13) (some 78) rfl rfl (Or.inl ⟨by kernel_rfl, ?h4x13⟩) ?r4x13
   case h4x13 => (intro w' hSw; obtain ⟨⟨q21, q23, q24⟩, ⟨y0, y1, y2, y3⟩, z6, z7⟩ := hSw; go_simp; first | done | (with_reducible rfl))
   try simp only [zA, zB, zC, zD, zE]
   refine tk (i := 5) (v := ?v5x14) (some 79) rfl rfl (Or.inl ⟨by kernel_rfl, ?h5x14⟩) ?r5x14
   case h5x14 => (intro w' hSw; obtain ⟨⟨q21, q23, q24⟩, ⟨y0, y1, y2, y3⟩, z6, z7⟩ := hSw; go_simp; first | done | (with_reducible rfl))
   try simp only [zA, zB, zC, zD, zE]
   refine tk (i := 6) (v := ?v6x15) (some 80) rfl rfl (Or.inl ⟨by kernel_rfl, ?h6x15⟩) ?r6x15
   case h6x15 => (intro w' hSw; obtain ⟨⟨q21, q23, q24⟩, ⟨y0, y1, y2, y3⟩, z6, z7⟩ := hSw; go_simp; first | done | (with_reducible rfl))
   try simp only [zA, zB, zC, zD, zE]
   refine tk (i := 7) (v := ?v7x16) (some 81) rfl rfl (Or.inl ⟨by kernel_rfl, ?h7x16⟩) ?r7x16
   case h7x16 => (intro w' hSw; obtain ⟨⟨q21, q23, q24⟩, ⟨y0, y1, y2, y3⟩, z6, z7⟩ := hSw; go_simp; first | done | (with_reducible rfl))
   try simp only [zA, zB, zC, zD, zE]
   refine tk (i := 8) (v := ?v8x17) (some 82) rfl rfl (Or.inl ⟨by kernel_rfl, ?h8x17⟩) ?r8x17
   case h8x17 => (intro w' hSw; obtain ⟨⟨q21, q23, q24⟩, ⟨y0, y1, y2, y3⟩, z6, z7⟩ := hSw; go_simp; first | done | (with_reducible rfl))
   try simp only [zA, zB, zC, zD, zE]
   refine tk (i := 9) (v := ?v9x18) (some 83) rfl rfl (Or.inl ⟨by kernel_rfl, ?h9x18⟩) ?r9x18
   case h9x18 => (intro w' hSw; obtain ⟨⟨q21, q23, q24⟩, ⟨y0, y1, y2, y3⟩, z6, z7⟩ := hSw; go_simp; first | done | (with_reducible rfl))
   try simp only [zA, zB, zC, zD, zE]
   refine tk (i := 10) (v := ?v10x19) (some 84) rfl rfl (Or.inl ⟨by kernel_rfl, ?h10x19⟩) ?r10x19
   case h10x19 => (intro w' hSw; obtain ⟨⟨q21, q23, q24⟩, ⟨y0, y1, y2, y3⟩, z6, z7⟩ := hSw; go_simp; first | done | (with_reducible rfl))
   try simp only [zA, zB, zC, zD, zE]
   refine tk (i := 11) (v := ?v11x20) (some 85) rfl rfl (Or.inl ⟨by kernel_rfl, ?h11x20⟩) ?r11x20
   case h11x20 => (intro w' hSw; obtain ⟨⟨q21, q23, q24⟩, ⟨y0, y1, y2, y3⟩, z6, z7⟩ := hSw; go_simp; first | done | (with_reducible rfl))
   try simp only [zA, zB, zC, zD, zE]
   refine tk (i := 12) (v := ?v12x21) (some 86) rfl rfl (Or.inl ⟨by kernel_rfl, ?h12x21⟩) ?r12x21
   case h12x21 => (intro w' hSw; obtain ⟨⟨q21, q23, q24⟩, ⟨y0, y1, y2, y3⟩, z6, z7⟩ := hSw; go_simp; first | done | (with_reducible rfl))
   try simp only [zA, zB, zC, zD, zE]
   refine tk (i := 13) (v := ?v13x22) (some 87) rfl rfl (Or.inl ⟨by kernel_rfl, ?h13x22⟩) ?r13x22
   case h13x22 => (intro w' hSw; obtain ⟨⟨q21, q23, q24⟩, ⟨y0, y1, y2, y3⟩, z6, z7⟩ := hSw; go_simp; first | done | (with_reducible rfl))
   try simp only [zA, zB, zC, zD, zE]
   refine tk (i := 14) (v := ?v14x23) (some 88) rfl rfl (Or.inl ⟨by kernel_rfl, ?h14x23⟩) ?r14x23
   case h14x23 => (intro w' hSw; obtain ⟨⟨q21, q23, q24⟩, ⟨y0, y1, y2, y3⟩, z6, z7⟩ := hSw; go_simp; first | done | (with_reducible rfl))
   try simp only [zA, zB, zC, zD, zE]
   refine tk (i := 15) (v := ?v15x24) (some 89) rfl rfl (Or.inl ⟨by kernel_rfl, ?h15x24⟩) ?r15x24
   case h15x24 => (intro w' hSw; obtain ⟨⟨q21, q23, q24⟩, ⟨y0, y1, y2, y3⟩, z6, z7⟩ := hSw; go_simp; first | done | (with_reducible rfl))
   try simp only [zA, zB, zC, zD, zE]
   refine tk (i := 16) (v := ?v16x25) (some 90) rfl rfl (Or.inl ⟨by kernel_rfl, ?h16x25⟩) ?r16x25
   case h16x25 => (intro w' hSw; obtain ⟨⟨q21, q23, q24⟩, ⟨y0, y1, y2, y3⟩, z6, z7⟩ := hSw; go_simp; first | done | (with_reducible rfl))
   try simp only [zA, zB, zC, zD, zE]
   refine tk (i := 17) (v := ?v17x26) (some 91) rfl rfl (Or.inl ⟨by kernel_rfl, ?h17x26⟩) ?r17x26
   case h17x26 => (intro w' hSw; obtain ⟨⟨q21, q23, q24⟩, ⟨y0, y1, y2, y3⟩, z6, z7⟩ := hSw; go_simp; first | done | (with_reducible rfl))
   try simp only [zA, zB, zC, zD, zE]
   refine wpAnyH_ready (rs := [18]) (by kernel_rfl) (by simp) ?_
   refine AllReadyH.cons rfl (fun K hK => ?_) AllReadyH.nil
   go_simp
   refine (rallCtl_any X q d 2 4 0 512 _ 8 1 (c18 1) _ hX (by decide) wsL_c (by decide) (by decide)).mono ?_
   rintro e' yA ⟨rfl, hb⟩
   go_simp
   replace hX := hX.below hb
   replace hB0 := below_only hB0 hb
   have hSn := hS.below hb
   clear hb
   refine hK.out _ _ (hSn) (fun hS => ?_)
   clear hK K
   try simp only [zA, zB, zC, zD, zE]
   refine tk (i := 19) (v := ?v19x27) (some 93) rfl rfl (Or.inl ⟨by kernel_rfl, ?h19x27⟩) ?r19x27
   case h19x27 => (intro w' hSw; obtain ⟨⟨q21, q23, q24⟩, ⟨y0, y1, y2, y3⟩, z6, z7⟩ := hSw; go_simp; first | done | (with_reducible rfl))
   try simp only [zA, zB, zC, zD, zE]
   refine tk (i := 20) (v := ?v20x28) (some 94) rfl rfl (Or.inl ⟨by kernel_rfl, ?h20x28⟩) ?r20x28
   case h20x28 => (intro w' hSw; obtain ⟨⟨q21, q23, q24⟩, ⟨y0, y1, y2, y3⟩, z6, z7⟩ := hSw; go_simp; first | done | (with_reducible rfl))
   try simp only [zA, zB, zC, zD, zE]
   refine tk (i := 21) (v := ?v21x29) (some 95) rfl rfl (Or.inl ⟨by kernel_rfl, ?h21x29⟩) ?r21x29
   case h21x29 => (intro w' hSw; obtain ⟨⟨q21, q23, q24⟩, ⟨y0, y1, y2, y3⟩, z6, z7⟩ := hSw; go_simp; first | done | (with_reducible rfl))
   try simp only [zA, zB, zC, zD, zE]
   refine tk (i := 22) (v := ?v22x30) (some 96) rfl rfl (Or.inl ⟨by kernel_rfl, ?h22x30⟩) ?r22x30
   case h22x30 => (intro w' hSw; obtain ⟨⟨q21, q23, q24⟩, ⟨y0, y1, y2, y3⟩, z6, z7⟩ := hSw; go_simp; first | done | (with_reducible rfl))
   try simp only [zA, zB, zC, zD, zE]
   refine tk (i := 23) (v := ?v23x31) (some 97) rfl rfl (Or.inl ⟨by kernel_rfl, ?h23x31⟩) ?r23x31
   case h23x31 => (intro w' hSw; obtain ⟨⟨q21, q23, q24⟩, ⟨y0, y1, y2, y3⟩, z6, z7⟩ := hSw; go_simp; first | done | (with_reducible rfl))
   try simp only [zA, zB, zC, zD, zE]
   refine tk (i := 24) (v := ?v24x32) (some 98) rfl rfl (Or.inl ⟨by kernel_rfl, ?h24x32⟩) ?r24x32
   case h24x32 => (intro w' hSw; obtain ⟨⟨q21, q23, q24⟩, ⟨y0, y1, y2, y3⟩, z6, z7⟩ := hSw; go_simp; first | done | (with_reducible rfl))
   try simp only [zA, zB, zC, zD, zE]
   refine tk (i := 25) (v := ?v25x33) (some 99) rfl rfl (Or.inl ⟨by kernel_rfl, ?h25x33⟩) ?r25x33
   case h25x33 => (intro w' hSw; obtain ⟨⟨q21, q23, q24⟩, ⟨y0, y1, y2, y3⟩, z6, z7⟩ := hSw; go_simp; first | done | (with_reducible rfl))
   try simp only [zA, zB, zC, zD, zE]
   refine tk (i := 26) (v := ?v26x34) (some 100) rfl rfl (Or.inl ⟨by kernel_rfl, ?h26x34⟩) ?r26x34
   case h26x34 => (intro w' hSw; obtain ⟨⟨q21, q23, q24⟩, ⟨y0, y1, y2, y3⟩, z6, z7⟩ := hSw; go_simp; first | done | (with_reducible rfl))
   try simp only [zA, zB, zC, zD, zE]
   refine tk (i := 27) (v := ?v27x35) (some 101) rfl rfl (Or.inl ⟨by kernel_rfl, ?h27x35⟩) ?r27x35
   case h27x35 => (intro w' hSw; obtain ⟨⟨q21, q23, q24⟩, ⟨y0, y1, y2, y3⟩, z6, z7⟩ := hSw; go_simp; first | done | (with_reducible rfl))
   try simp only [zA, zB, zC, zD, zE]
   refine wpAnyH_ready (rs := [28]) (by kernel_rfl) (by simp) ?_
   refine AllReadyH.cons rfl (fun K hK => ?_) AllReadyH.nil
   go_simp
   refine (rallGet_any X q d 2 4 0 512 _ 11 tp 3 1 _ hX wsL_t (by decide) (by decide) (by decide)).mono ?_
   rintro e' yB ⟨rfl, hb⟩
   go_simp
   replace hX := hX.below hb
   replace hB0 := below_only hB0 hb
   have hSn := hS.below hb
   clear hb
   refine hK.out _ _ (hSn) (fun hS => ?_)
   clear hK K
   try simp only [zA, zB, zC, zD, zE]
   refine tk (i := 29) (v := ?v29x36) (some 103) rfl rfl (Or.inl ⟨by kernel_rfl, ?h29x36⟩) ?r29x36
   case h29x36 => (intro w' hSw; obtain ⟨⟨q21, q23, q24⟩, ⟨y0, y1, y2, y3⟩, z6, z7⟩ := hSw; go_simp; first | done | (with_reducible rfl))
   try simp only [zA, zB, zC, zD, zE]
   refine tk (i := 30) (v := ?v30x37) (some 104) rfl rfl (Or.inl ⟨by kernel_rfl, ?h30x37⟩) ?r30x37
   case h30x37 => (intro w' hSw; obtain ⟨⟨q21, q23, q24⟩, ⟨y0, y1, y2, y3⟩, z6, z7⟩ := hSw; go_simp; first | done | (with_reducible rfl))
   try simp only [zA, zB, zC, zD, zE]
   refine wpAnyH_done (by kernel_rfl) ?_ _
   clear hS
   go_wp2_with fail
   go_meet
   exact ⟨rfl, hB0⟩
  case rest =>
   obtain ⟨rfl, hbx⟩ := hcut
   obtain ⟨w17, hw17⟩ : ∃ x, x = wc := ⟨_, rfl⟩
   subst hw17
   replace HA1 := Lib.hid (HA1.out.below hbx)
   replace HF8 := Lib.hid (HF8.out.below hbx)
   replace HB := Lib.hid (below_only HB.out hbx)
   clear hbx HS HX nn1 nn2
   go_wp2_with fail
   refine (alone_any fl9 obs2 (c18 1) ⟨3, 0, 0, 4⟩ A9 c9 p b _ HI2.out (by rw [HU2.out]; exact HA1.out) HF8.out HOff.out).mono ?_
   rintro r w18 ⟨ch2, T2, R2, rfl, hal, hK⟩
   have hE := hal.ended HI2.out
   have HA2 : Hid (Arn w18 p b (wsL ⟨1, 0, -1, 5⟩ 0 0 (List.replicate 64 0))) := Lib.hid (by
    have h9 := hE.arn
    rw [ws_open HI2.out.f8 HI2.out.use (by rw [HL2.out.1])] at h9
    exact h9)
   have HD2 : Hid (R2.done = true ∧ R2.code = 0 ∧ R2.an = 0 ∧ R2.asaid.n = 0) := Lib.hid ⟨hE.dn, by rw [hE.co, HL2.out.1]; rfl, by rw [hE.an, HL2.out.2]; rfl, by have h9 := hE.sa.n; rw [HL2.out.1] at h9; exact h9⟩
   obtain ⟨N2, HN2⟩ : ∃ x : Nat, Hid (2 + laN (fsL fl9) obs2 = x) := ⟨_, Lib.hid rfl⟩
   rw [HN2.out]
   replace HB := Lib.hid (Keep.under HB.out hK (by have := HB.out.size; omega) (by simp; exact HWb.out))
   clear hal hK hE HA1 HF8 HN2 HI2 HL2
   go_upto_region 15 with (refine wpList_store_row rfl 43 (.tmp 18) (.tmp 109) rfl w18.heap.size R2.arr rfl rfl 43 ZRun (row_new _ _ _) infoRun rfl (Rn.one _) ?_; (try simp only [zA, zB, zC, zD, zE]))
   refine alloc_set' w18 _ _ _ ?_
   intro w19 hr hb
   have c21 : w19.cell? ⟨w18.heap.size, 21, none⟩ = some (.bool true) := by rw [row_cell hr, ← HD2.out.1]; rfl
   have c23 : w19.cell? ⟨w18.heap.size, 23, none⟩ = some (.int .i64 0) := by rw [row_cell hr, ← HD2.out.2.1]; rfl
   have c24 : w19.cell? ⟨w18.heap.size, 24, none⟩ = some (.int .i64 0) := by rw [row_cell hr, ← HD2.out.2.2.1]; rfl
   have c25 : w19.cell? ⟨w18.heap.size, 25, none⟩ = some (.slice R2.asaid.a 0 R2.asaid.c) := by rw [row_cell hr, ← HD2.out.2.2.2]; rfl
   obtain ⟨g8, Hg8⟩ : ∃ x, Hid (w18.heap.size = x) := ⟨_, Lib.hid rfl⟩
   have HC8 : Hid (w19.cell? ⟨g8, 21, none⟩ = some (.bool true) ∧ w19.cell? ⟨g8, 23, none⟩ = some (.int .i64 0) ∧ w19.cell? ⟨g8, 24, none⟩ = some (.int .i64 0) ∧ w19.cell? ⟨g8, 25, none⟩ = some (.slice R2.asaid.a 0 R2.asaid.c) ∧ g8 < w19.heap.size) := Lib.hid (by rw [← Hg8.out]; exact ⟨c21, c23, c24, c25, lt_of_heap hr⟩)
   rw [Hg8.out]
   replace HA2 := Lib.hid (HA2.out.below hb)
   replace HB := Lib.hid (below_only HB.out hb)
   clear hr hb c21 c23 c24 c25 Hg8 HD2
   go_wp2_with fail
   refine (plan18_any _).mono ?_
   rintro r w20 ⟨rfl, hb⟩
   have HB9 := Lib.hid hb
   replace HA2 := Lib.hid (HA2.out.below hb)
   replace HB := Lib.hid (below_only HB.out hb)
   clear hb
   go_wp2_with fail
   refine (foundCtl_any p b 2 4 0 512 _ 8 1 ⟨1, 0, -1, 5⟩ _ plan18 HA2.out (by decide) wsL_c (by decide) (by decide)).mono ?_
   rintro r w21 ⟨rfl, hb⟩
   replace HB9 := Lib.hid (below_only HB9.out hb)
   replace HB := Lib.hid (below_only HB.out hb)
   clear hb HA2
   go_upto_region 16 with fail
   refine one_row w21 _ _ ?_
   intro w22 hr hb
   replace HB9 := Lib.hid (below_only HB9.out hb)
   replace HB := Lib.hid (below_only HB.out hb)
   obtain ⟨y0, y1, y2, y3, _⟩ := box4 hr
   have zy := lt_of_heap hr
   obtain ⟨c21, c23, c24, c25, z8⟩ := HC8.out
   replace c21 := (HB9.out.cell (p := ⟨g8, 21, none⟩) z8).trans c21
   replace c23 := (HB9.out.cell (p := ⟨g8, 23, none⟩) z8).trans c23
   replace c24 := (HB9.out.cell (p := ⟨g8, 24, none⟩) z8).trans c24
   replace c25 := (HB9.out.cell (p := ⟨g8, 25, none⟩) z8).trans c25
   replace z8 := Nat.lt_of_lt_of_le z8 HB9.out.size
   clear hr hb HC8 HB9
   go_wp2_with fail
   go_ret
   exact ⟨rfl, HB.out⟩
end Go.Proofs.YtbijaloeilnjoaaGreat
