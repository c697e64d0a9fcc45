/- Layer 18: the walk of LeaveBound. (Printed by gen_lb18.py.) -/
import Derived.Test.YtbijaloeilnjoaaGreatLJ
import Derived.Test.YtbijaloeilnjoaaGreatLO
namespace Go.Proofs.YtbijaloeilnjoaaGreat
open Go.RowKit
set_option linter.unusedVariables false
set_option linter.unusedSimpArgs false

theorem FtsAt.fins {B : Nat} {w : World} {A : Option Addr} {c : Nat} {ls : List (List Fo)} {fl : List FSl} (h : FtsAt B w A c ls fl) : FinsAt w A fl := by
 obtain ⟨A9, c9, e9, -, -, h9⟩ := own_slice h.own
 injection e9 with e1 e2 e3
 subst e1
 exact ⟨h9, fun x hx => (h.at_ x hx).e⟩
theorem FtsAt.off {B b : Nat} {w : World} {A : Option Addr} {c : Nat} {ls : List (List Fo)} {fl : List FSl} (h : FtsAt B w A c ls fl) (hb : w.heap.size ≤ b) : FinsOff A fl b :=
 ⟨fun z hz => by have := own_ltF h.own z.block (by rw [hz]; rfl); omega, fun x hx z hz => by have := ((h.at_ x hx).lo z hz).2; omega⟩
/-- the last one who leaves the scope that was laid -/
theorem alIn_laid {fs : List (List Fo)} {fs0 : List (List Fo)} (l : List Oj) (h : fs = fitL fs0) : AlIn fs (obsOf l) (c18 1) ⟨3, 0, 0, 4⟩ := by
 subst h
 exact ⟨fitL_ops _, fitL_ok _, fitL_len _, obsOf_ok l, by rw [obsOf_len]; omega, obsOf_used l, by decide, by kernel_rfl, ⟨by decide, rfl⟩⟩
set_option maxRecDepth 100000 in
set_option maxHeartbeats 8000000 in
theorem leaveBound_walk (A0 : Option Addr) (c0 : Nat) (l0 : List FSl) (A1 : Option Addr) (c1 : Nat) (l1 : List Oj) (W : World) (hl0 : l0.length ≤ c0) (hc0 : c0 ≤ maxLen) (he0 : Cells W A0 (l0.flatMap fslCells)) (hq0 : ∀ e ∈ l0, FslOk W e) (hl1 : l1.length ≤ c1) (hc1 : c1 ≤ maxLen) (he1 : Cells W A1 (l1.flatMap jCells)) (hq1 : ∀ e ∈ l1, OjOk e) :
  Calls Tryz.prog 7 #[.slice A0 l0.length c0, .slice A1 l1.length c1] W fun r w' => r = .returned (.bool true) ∧ Below W.heap.size W w' := by
 have HI0 := Lib.hid (finsAt_in he0 hq0)
 have Hq0 := Lib.hid hq0
 have HJ1 := Lib.hid he1
 have Hq1 := Lib.hid hq1
 have Hln := Lib.hid (And.intro (Nat.le_trans hl0 hc0) (Nat.le_trans hl1 hc1))
 have l1I : (l1.length : Int) ≤ 9223372036854775807 := by have := Nat.le_trans hl1 hc1; unfold maxLen at this; omega
 clear hl0 hc0 he0 hq0 hl1 hc1 he1 hq1
 go_enter Tryz.func7, Tryz.ntmps7
 go_wp2_with fail
 refine (shown18_any _).mono ?_
 rintro r w1 ⟨rfl, hb⟩
 have HB := Lib.hid hb
 replace HI0 := Lib.hid (HI0.out.below hb)
 replace HJ1 := Lib.hid (Cells.below HJ1.out hb)
 clear hb
 go_wp2_with fail
 refine (fit_any A0 c0 l0 _ HI0.out (fun x hx o ho => ((Hq0.out x hx).o o ho).op) Hln.out.1 (fun x hx => Nat.le_trans (Hq0.out x hx).n.1 (Hq0.out x hx).n.2)).mono ?_
 rintro r w2 ⟨fA, fc, fl, rfl, hft, hb⟩
 have HFt := Lib.hid hft
 replace HJ1 := Lib.hid (Cells.below HJ1.out hb)
 replace HB := Lib.hid (below_only HB.out hb)
 have HBz := Lib.hid HB.out.size
 have HFs : Hid (fsL fl = fitL (fsL l0)) := Lib.hid hft.is
 have HFa : Hid (FinsAt w2 fA fl) := Lib.hid (hft.fins)
 clear hft hb HI0 Hq0
 go_wp2_with fail
 refine (laid_any ⟨fA, fl.length, fc⟩ A1 c1 l1 1 _ (by decide) HJ1.out Hq1.out Hln.out.2).mono ?_
 rintro r w3 ⟨p, b, X, q, d, rfl, hT, -, hb⟩
 have HT := Lib.hid hT
 replace HB := Lib.hid (below_only HB.out hb)
 have HOff : Hid (FinsOff fA fl b) := Lib.hid (HFt.out.off hT.low.2.1)
 replace HFa := Lib.hid (HFa.out.below hb)
 have HLw : Hid (w2.heap.size ≤ b ∧ W.heap.size ≤ b) := Lib.hid ⟨hT.low.2.1, Nat.le_trans HBz.out hT.low.2.1⟩
 clear hT hb HJ1 Hq1 HFt
 obtain ⟨k, Hk⟩ : ∃ k : Nat, Hid ((obsOf l1).length = k ∧ k = min l1.length 8) := ⟨_, Lib.hid ⟨rfl, obsOf_len l1⟩⟩
 obtain ⟨u, Hu⟩ : ∃ u : Nat, Hid (used (obsOf l1) = u ∧ u ≤ 64) := ⟨_, Lib.hid ⟨rfl, obsOf_used l1⟩⟩
 have HI := Lib.hid (alIn_laid (fs := fsL fl) l1 HFs.out)
 have hbd := laN_bd HI.out.f8 (obsOf l1)
 rw [Hk.out.1, Hu.out.1] at hbd
 obtain ⟨n, Hn⟩ : ∃ n : Nat, Hid (2 + laN (fsL fl) (obsOf l1) = n) := ⟨_, Lib.hid rfl⟩
 have n5 : 5 + (k : Int) ≤ (n : Int) := by have := Hn.out; omega
 have n7 : (n : Int) ≤ 7 + (k : Int) * 10 + (u : Int) := by have := Hn.out; omega
 have u64 : (u : Int) ≤ 64 := by have := Hu.out; omega
 have k8 : (k : Int) ≤ 8 := by have := Hk.out; omega
 have hmin : (if (8 : Int) < (l1.length : Int) then (8 : Int) else (l1.length : Int)) = (k : Int) := by have := Hk.out; split <;> omega
 have hq : (8 * (u : Int)).tdiv 8 = (u : Int) := by rw [Int.tdiv_eq_ediv_of_nonneg (by omega)]; omega
 rw [Hu.out.1] at HT
 clear hbd
 go_wp2_with fail
 refine (rallGet_any X q d 2 4 0 512 _ 11 (8 * (u : Int)) 3 1 _ HT.out.x wsL_t (by decide) (by decide) (by decide)).mono ?_
 rintro r w4 ⟨rfl, hb⟩
 replace HT := Lib.hid (HT.out.below hb)
 replace HB := Lib.hid (below_only HB.out hb)
 replace HFa := Lib.hid (HFa.out.below hb)
 clear hb
 go_wp2_with fail
 refine (alone_any fl (obsOf l1) (c18 1) ⟨3, 0, 0, 4⟩ fA fc p b _ HI.out (by rw [Hu.out.1]; exact HT.out.a) HFa.out HOff.out).mono ?_
 rintro r w5 ⟨ch, T, R, rfl, hal, hK⟩
 have hdn : R.done = true := by rcases hal.done HI.out with ⟨_, h9⟩ | ⟨h9, _⟩; exact absurd h9 (Nat.lt_irrefl _); exact h9
 have HDn := Lib.hid hdn
 rw [Hn.out]
 replace HB := Lib.hid (Keep.under HB.out hK (by have := HB.out.size; omega) (by simp; exact HLw.out.2))
 clear hal hK hdn
 go_upto_region 9 with (refine wpList_store_row rfl 43 (.tmp 11) (.tmp 39) rfl w5.heap.size R.arr rfl rfl 43 ZRun (row_new _ _ _) infoRun rfl (Rn.one _) ?_; (try simp only [Act.put, List.setIfInBounds_toArray, List.set_cons_succ, List.set_cons_zero]))
 refine alloc_set' w5 _ _ _ ?_
 intro w6 hr hb
 have c21 : w6.cell? ⟨w5.heap.size, 21, none⟩ = some (.bool true) := by rw [row_cell hr, ← HDn.out]; rfl
 have z11 := lt_of_heap hr
 replace HB := Lib.hid (below_only HB.out hb)
 clear hr hb
 go_wp2_with fail
 go_ret
 exact ⟨rfl, HB.out⟩
end Go.Proofs.YtbijaloeilnjoaaGreat
