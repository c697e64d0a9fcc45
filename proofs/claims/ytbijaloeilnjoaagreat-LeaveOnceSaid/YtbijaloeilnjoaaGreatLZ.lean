/- Layer 18 in plain terms: what 'laid' lays: objects one behind the other. Layer 18: the walk of laid. (Printed by gen_laid18.py.) Layer 18: the law's call as it begins. (Printed by gen_call18.py.) -/
import Derived.Test.YtbijaloeilnjoaaGreatFour
import Derived.Test.YtbijaloeilnjoaaGreatLP
import Derived.Test.YtbijaloeilnjoaaGreatFR
import Derived.Test.YtbijaloeilnjoaaGreatLvT
import Derived.Test.YtbijaloeilnjoaaGreatRFs
import Derived.Test.YtbijaloeilnjoaaGreatBRefC
import Derived.Test.YtbijaloeilnjoaaGreatTP
namespace Go.Proofs.YtbijaloeilnjoaaGreat
open Go.RowKit
set_option linter.unusedVariables false
set_option linter.unusedSimpArgs false

theorem plan18 : PlanOk 2 4 0 512 := ⟨by decide, by decide, by decide, by decide, by decide, by decide, by decide, by decide, by decide, by decide⟩
/-- an object that is asked for -/
structure Oj where
 s : Int
 h : Int
 t : Int
 d : Bool
abbrev jCells (o : Oj) : List Value := [.int .u8 o.s, .int .u8 o.h, .int .u8 o.t, .bool o.d]
theorem j_at {w : World} {A : Option Addr} {l : List Oj} (h : Cells w A (l.flatMap jCells)) (h0 : 0 < l.length) : ∃ b off, A = some ⟨b, off, none⟩ ∧ b < w.heap.size ∧ ∀ k x, l[k]? = some x → w.cell? ⟨b, off + k * 4, none⟩ = some (.int .u8 x.s) ∧ w.cell? ⟨b, off + k * 4 + 1, none⟩ = some (.int .u8 x.h) ∧ w.cell? ⟨b, off + k * 4 + 2, none⟩ = some (.int .u8 x.t) ∧ w.cell? ⟨b, off + k * 4 + 3, none⟩ = some (.bool x.d) := by
 obtain ⟨b, off, e, hb, hc⟩ := Cells.at_ h (by rw [flat_length jCells 4 (fun _ => rfl)]; omega)
 refine ⟨b, off, e, hb, fun k x hk => ?_⟩
 have g := fun j (hj : j < 4) v (hv : (jCells x)[j]? = some v) => hc (k * 4 + j) v (by rw [flat_get jCells 4 (fun _ => rfl) l k j hj, hk]; exact hv)
 exact ⟨g 0 (by omega) _ rfl, by have := g 1 (by omega) _ rfl; rwa [← Nat.add_assoc] at this, by have := g 2 (by omega) _ rfl; rwa [← Nat.add_assoc] at this, by have := g 3 (by omega) _ rfl; rwa [← Nat.add_assoc] at this⟩
structure OjOk (o : Oj) : Prop where
 s : 0 ≤ o.s ∧ o.s ≤ 255
 h : 0 ≤ o.h ∧ o.h ≤ 255
 t : 0 ≤ o.t ∧ o.t ≤ 255
def hasB (h : Int) (k : Nat) : Int := 7 * (h / 2 ^ k % 2)
def Oj.n (o : Oj) : Nat := (o.s % 7).toNat
def Oj.tg (o : Oj) : Nat := (o.t % 8).toNat
/-- the object with its first k slots laid -/
def obK (o : Oj) (k : Nat) : Ob := ⟨(List.range o.n).map fun j => if j < k then hasB o.h j else 0, o.tg, false⟩
def obOf (o : Oj) : Ob := ⟨(List.range o.n).map (hasB o.h), o.tg, o.d⟩
def obsOf (l : List Oj) : List Ob := (l.take 8).map obOf
def obsN (l : List Oj) (i : Nat) : List Ob := (l.take i).map obOf
theorem obsN_all (l : List Oj) {i : Nat} (h : i = min l.length 8) : obsN l i = obsOf l := by
 unfold obsN obsOf
 subst h
 by_cases h8 : l.length ≤ 8
 ·rw [Nat.min_eq_left h8, List.take_of_length_le (Nat.le_refl _), List.take_of_length_le h8]
 ·rw [Nat.min_eq_right (by omega)]
theorem hasB_bd (h : Int) (k : Nat) : 0 ≤ hasB h k ∧ hasB h k ≤ 7 := by unfold hasB; omega
theorem Oj.n6 (o : Oj) : o.n ≤ 6 := by unfold Oj.n; omega
theorem Oj.t7 (o : Oj) : o.tg < 8 := by unfold Oj.tg; omega
theorem obOf_ok (o : Oj) : ObOk (obOf o) := by
 have := o.n6
 refine ⟨by unfold obOf; simpa using this, o.t7, fun x hx => ?_⟩
 unfold obOf at hx
 obtain ⟨j, _, rfl⟩ := List.mem_map.1 hx
 have := hasB_bd o.h j
 omega
theorem obK_w (o : Oj) (k : Nat) : (obK o k).w = 2 + o.n := by unfold obK Ob.w; simp
theorem obOf_w (o : Oj) : (obOf o).w = 2 + o.n := by unfold obOf Ob.w; simp
theorem obsN_w (l : List Oj) (i : Nat) : used (obsN l i) ≤ 8 * (obsN l i).length := by
 have h : ∀ m : List Oj, used (m.map obOf) ≤ 8 * (m.map obOf).length := fun m => by
  induction m with
  | nil => exact Nat.le_refl _
  | cons a m ih => rw [List.map_cons, used_cons, obOf_w]; have := a.n6; simp at ih ⊢; omega
 exact h _
theorem obsN_len (l : List Oj) (i : Nat) : (obsN l i).length ≤ i := by unfold obsN; simp; omega
theorem obsN_used (l : List Oj) {i : Nat} (h : i < 8) : used (obsN l i) + 8 ≤ 64 := by
 have h1 := obsN_w l i
 have h2 := obsN_len l i
 omega
theorem obsOf_used (l : List Oj) : used (obsOf l) ≤ 64 := by
 have h1 := obsN_w l 8
 have h2 := obsN_len l 8
 show used (obsN l 8) ≤ 64
 omega
theorem obsOf_ok (l : List Oj) : ∀ o ∈ obsOf l, ObOk o := fun o ho => by
 obtain ⟨x, _, rfl⟩ := List.mem_map.1 ho
 exact obOf_ok x
theorem obsOf_len (l : List Oj) : (obsOf l).length = min l.length 8 := by unfold obsOf; simp; omega
theorem obsN_succ {l : List Oj} {i : Nat} {o : Oj} (h : l[i]? = some o) : obsN l (i + 1) = obsN l i ++ [obOf o] := by
 unfold obsN
 rw [List.take_add_one, h]
 simp
theorem obK_0 (o : Oj) : obK o 0 = ⟨List.replicate o.n 0, o.tg, false⟩ := by
 unfold obK
 congr 1
 rw [List.eq_replicate_iff]
 refine ⟨by simp, fun x hx => ?_⟩
 obtain ⟨j, _, rfl⟩ := List.mem_map.1 hx
 rw [if_neg (by omega)]
theorem obK_all (o : Oj) : ({ obK o o.n with dn := o.d } : Ob) = obOf o := by
 have e : (obK o o.n).sl = (obOf o).sl := by
  refine List.map_congr_left fun j hj => ?_
  rw [if_pos (List.mem_range.1 hj)]
 show (⟨(obK o o.n).sl, o.tg, o.d⟩ : Ob) = obOf o
 rw [e]
 rfl
theorem obK_next (o : Oj) {k : Nat} (h : k < o.n) : (obW (obK o k)).set (2 + k) (hasB o.h k) = obW (obK o (k + 1)) := by
 have e : (obK o k).sl.set k (hasB o.h k) = (obK o (k + 1)).sl := by
  apply List.ext_getElem?
  intro j
  unfold obK
  dsimp only
  rw [List.getElem?_set]
  simp only [List.length_map, List.length_range, List.getElem?_map]
  by_cases hj : k = j
  ·subst hj
   rw [if_pos rfl, if_pos h, List.getElem?_range h]
   simp
  ·rw [if_neg hj]
   by_cases h2 : j < o.n
   ·rw [List.getElem?_range h2]
    simp only [Option.map_some]
    by_cases h3 : j < k
    ·rw [if_pos h3, if_pos (by omega)]
    ·rw [if_neg h3, if_neg (by omega)]
   ·rw [List.getElem?_eq_none (by simp; omega)]; rfl
 unfold obW
 rw [show 2 + k = (k + 1) + 1 by omega, List.set_cons_succ, List.set_cons_succ, e]
 simp [obK]
/-- the words while objects are laid -/
def oLW (c : Ctl) (obs : List Ob) : List Int := wsL c (8 * (used obs : Int)) 0 (extE obs)
theorem last_ob (obs : List Ob) (o : Ob) : (obs ++ [o])[obs.length]? = some o ∧ offs (obs ++ [o]) obs.length = used obs := by
 refine ⟨by simp, ?_⟩
 unfold offs
 rw [List.take_left']
 rfl
theorem used_snoc (obs : List Ob) (o : Ob) : used (obs ++ [o]) = used obs + o.w := by rw [used_app, used_cons, used_nil]; rfl
theorem set_last (obs : List Ob) (o o' : Ob) : (obs ++ [o]).set obs.length o' = obs ++ [o'] := by
 rw [List.set_append_right _ _ (Nat.le_refl _), Nat.sub_self]; rfl
/-- a word of the last object is set -/
theorem oLW_set {c : Ctl} {obs : List Ob} {o o' : Ob} {j : Nat} {x : Int} (hw : o'.w = o.w) (hj : j < o.w) (hs : (obW o).set j x = obW o') : (oLW c (obs ++ [o])).set (16 + used obs + j) x = oLW c (obs ++ [o']) := by
 obtain ⟨h1, h2⟩ := last_ob obs o
 unfold oLW
 rw [Nat.add_assoc, wsL_setE]
 have := extE_set h1 hw hj hs
 rw [h2, set_last] at this
 rw [this, used_snoc, used_snoc, hw]
theorem oLW_get {c : Ctl} {obs : List Ob} {o : Ob} {j : Nat} (hj : j < o.w) : (oLW c (obs ++ [o]))[16 + used obs + j]? = (obW o)[j]? := by
 obtain ⟨h1, h2⟩ := last_ob obs o
 unfold oLW
 rw [Nat.add_assoc, wsL_e]
 have := extE_get h1 hj
 rwa [h2] at this
theorem oLW_slot (c : Ctl) (obs : List Ob) (o : Oj) (k : Nat) (h : k < o.n) : (∃ z, (oLW c (obs ++ [obK o k]))[16 + used obs + (2 + k)]? = some z) ∧ (oLW c (obs ++ [obK o k])).set (16 + used obs + (2 + k)) (hasB o.h k) = oLW c (obs ++ [obK o (k + 1)]) := by
 have hlt : 2 + k < (obK o k).w := by rw [obK_w]; omega
 have hg := oLW_get (c := c) (obs := obs) (o := obK o k) hlt
 rw [List.getElem?_eq_getElem (l := obW (obK o k)) (by rw [obW_len]; exact hlt)] at hg
 exact ⟨⟨_, hg⟩, oLW_set (by rw [obK_w, obK_w]) hlt (obK_next o h)⟩
theorem oLW_done (c : Ctl) (obs : List Ob) (o : Oj) (h : o.d = true) (k : Nat) (hk : k = o.n) : ∃ hd, (oLW c (obs ++ [obK o k]))[16 + used obs]? = some hd ∧ (oLW c (obs ++ [obK o k])).set (16 + used obs) (hd + 281474976710656) = oLW c (obs ++ [obOf o]) ∧ 0 ≤ hd ∧ hd + 281474976710656 < 18446744073709551616 ∧ hd / 281474976710656 % 2 = 0 := by
 subst hk
 have hlt : 0 < (obK o o.n).w := by rw [obK_w]; omega
 have hl : (obK o o.n).sl.length = o.n := by unfold obK; simp
 have n6 := o.n6
 have t7 := o.t7
 have e0 : obW (obK o o.n) = head1d (2 + (o.n : Int)) o.n o.tg false :: head2 1 4 :: (obK o o.n).sl := by
  unfold obW
  rw [hl]
  rfl
 have e1 : obW (obOf o) = head1d (2 + (o.n : Int)) o.n o.tg true :: head2 1 4 :: (obK o o.n).sl := by
  rw [← obK_all]
  unfold obW
  dsimp only
  rw [hl, h]
  rfl
 have ed : head1d (2 + (o.n : Int)) o.n o.tg true = head1d (2 + (o.n : Int)) o.n o.tg false + 281474976710656 := by unfold head1d doneB; simp
 have hg := oLW_get (c := c) (obs := obs) (o := obK o o.n) hlt
 have hs := oLW_set (c := c) (obs := obs) (o := obK o o.n) (o' := obOf o) (j := 0) (x := head1d (2 + (o.n : Int)) o.n o.tg false + 281474976710656) (by rw [obK_w, obOf_w]) hlt (by rw [e0, e1, List.set_cons_zero, ed])
 rw [e0] at hg
 have hq : 11889503016258109440 ≤ head1d (2 + (o.n : Int)) o.n o.tg false ∧ head1d (2 + (o.n : Int)) o.n o.tg false < 11889503016258109440 + 281474976710656 := by unfold head1d doneB head1; simp only [Bool.false_eq_true, if_false]; omega
 have hq2 : head1d (2 + (o.n : Int)) o.n o.tg false / 281474976710656 = 42240 := by omega
 exact ⟨_, hg, hs, by omega, by omega, by rw [hq2]; rfl⟩
theorem oLW_len {c : Ctl} {obs : List Ob} (h : used obs ≤ 64) : (oLW c obs).length = 80 := wsL_len (extE_len h)
/-- a new object's words -/
theorem ext_new (obs : List Ob) (n tg : Nat) (h : used obs + (2 + n) ≤ 64) : ((extE obs).set (used obs) (head1 (2 + (n : Int)) n tg)).set (used obs + 1) (head2 1 4) = extE (obs ++ [⟨List.replicate n 0, tg, false⟩]) := by
 unfold extE
 rw [List.set_append_right _ _ (by rw [flat_used]; exact Nat.le_refl _), List.set_append_right _ _ (by rw [flat_used]; omega), flat_used, Nat.sub_self, Nat.add_sub_cancel_left]
 have e : 64 - used obs = (64 - used obs - (2 + n) + n) + 1 + 1 := by omega
 rw [e, List.replicate_succ, List.replicate_succ, List.set_cons_zero, List.set_cons_succ, List.set_cons_zero, used_snoc]
 rw [List.flatMap_append, List.append_assoc]
 congr 1
 unfold obW Ob.w
 simp only [List.flatMap_cons, List.flatMap_nil, List.append_nil, List.length_replicate, List.cons_append]
 have h1 : head1d (2 + (n : Int)) n tg false = head1 (2 + (n : Int)) n tg := by unfold head1d doneB; simp
 rw [h1]
 congr 2
 rw [List.replicate_append_replicate]
 congr 1
 omega
/-- an allocation as it begins -/
def al18 (n tg : Nat) : Rn := ⟨⟨7, 0, 0, 0, (n : Int), 0, (tg : Int)⟩, 5, 1, 0, 0, noS, 0, 0, 0, 0, noS, 0, noS, 0, false, false, false, 0, 0, noS⟩
theorem al18_run {n tg : Nat} (hn : n ≤ 6) (ht : tg < 8) (c : Ctl) : TkRun 1 c 128 512 noS (al18 n tg) :=
 ⟨rfl, ⟨by show (0:Int) ≤ (n : Int); omega, by show (n : Int) ≤ 6; omega⟩, ⟨by show (0:Int) ≤ 0; decide, by show (0:Int) ≤ 512; decide⟩, ⟨by show (0:Int) ≤ (tg : Int); omega, by show (tg : Int) ≤ 7; omega⟩, rfl, rfl, rfl, rfl, rfl, .inl rfl, fun h => absurd rfl h, fun h => (by rcases h with h | h <;> cases h), fun h => (by cases h)⟩
theorem blk18 {c : Ctl} (hc : Right c) {obs : List Ob} (h : used obs ≤ 64) : BlkOk 2 (oLW c obs) 1 c 128 512 (8 * (used obs : Int)) := by
 refine ⟨⟨rfl, rfl, rfl, rfl, hc⟩, by decide, by decide, by decide, ?_, ?_, by decide, by omega, by omega, by omega⟩
 ·rw [oLW_len h]; decide
 ·rw [oLW_len h]; decide
theorem take18 {c : Ctl} (h4 : c.ep = 4) {obs : List Ob} {n tg : Nat} (h : used obs + (2 + n) ≤ 64) : stepsW (oLW c obs) 1 c 128 512 (8 * (used obs : Int)) (al18 n tg) 4 = oLW c (obs ++ [⟨List.replicate n 0, tg, false⟩]) ∧ (stepsR c 128 512 (8 * (used obs : Int)) (al18 n tg) 4).an = hdl 1 4 (16 + (used obs : Int)) := by
 have hw : wordsN (al18 n tg).c.a (al18 n tg).c.b = 2 + (n : Int) := by show wordsN (n : Int) 0 = _; unfold wordsN; omega
 have hf : 8 * (used obs : Int) + 8 * wordsN (al18 n tg).c.a (al18 n tg).c.b ≤ 512 := by rw [hw]; omega
 constructor
 ·rw [steps_words, if_pos hf, hw, h4]
  have e1 : ((128 + 8 * (used obs : Int)) / 8).toNat = 16 + used obs := by omega
  rw [e1]
  show (((wsL c (8 * (used obs : Int)) 0 (extE obs)).set 11 _).set (16 + used obs) _).set (16 + used obs + 1) _ = _
  rw [wsL_setT, wsL_setE, Nat.add_assoc, wsL_setE]
  show wsL c _ 0 (((extE obs).set (used obs) (head1 (2 + (n : Int)) n tg)).set (used obs + 1) (head2 1 4)) = _
  rw [ext_new obs n tg h]
  unfold oLW
  rw [used_snoc]
  unfold Ob.w
  simp only [List.length_replicate]
  rw [show 8 * (used obs : Int) + 8 * (2 + (n : Int)) = 8 * ((used obs + (2 + n) : Nat) : Int) by omega]
 ·have := (steps_end (c := c) (ba := 128) (bu := 512) (tp := 8 * (used obs : Int)) (al18 n tg)).an
  rw [if_pos hf] at this
  rw [this, h4, show (128 + 8 * (used obs : Int)) / 8 = 16 + (used obs : Int) by omega]
  rfl
/-- the scope 1, that some are within -/
def c18 (m : Int) : Ctl := ⟨2, m, 0, 4⟩
theorem c18_right {m : Int} (h : 1 ≤ m ∧ m ≤ 3) : Right (c18 m) := by
 unfold c18 Right
 simp
 omega
/-- the words that are taken over -/
def mixL (xs ws : List Int) (n : Nat) : List Int := xs.take n ++ ws.drop n
theorem mixL_len {xs ws : List Int} (h : xs.length = ws.length) {n : Nat} (hn : n ≤ xs.length) : (mixL xs ws n).length = xs.length := by unfold mixL; simp; omega
theorem mixL_zero (xs ws : List Int) : mixL xs ws 0 = ws := by unfold mixL; simp
theorem mixL_all {xs ws : List Int} (h : xs.length = ws.length) : mixL xs ws xs.length = xs := by
 unfold mixL
 rw [List.drop_of_length_le (by omega), List.take_of_length_le (Nat.le_refl _)]
 simp
theorem mixL_set {xs ws : List Int} (hl : xs.length = ws.length) {n : Nat} {x : Int} (hx : xs[n]? = some x) : (mixL xs ws n).set n x = mixL xs ws (n + 1) := by
 have hn := (List.getElem?_eq_some_iff.1 hx).1
 apply List.ext_getElem?
 intro i
 unfold mixL
 rw [List.getElem?_set]
 by_cases e : n = i
 ·subst e
  rw [if_pos rfl, if_pos (by simp; omega), List.getElem?_append_left (by simp; omega), List.getElem?_take, if_pos (by omega), hx]
 ·rw [if_neg e]
  by_cases h : i < n
  ·rw [List.getElem?_append_left (by simp; omega), List.getElem?_append_left (by simp; omega), List.getElem?_take, List.getElem?_take, if_pos h, if_pos (by omega)]
  ·rw [List.getElem?_append_right (by simp; omega), List.getElem?_append_right (by simp; omega), List.getElem?_drop, List.getElem?_drop]
   congr 1
   simp
   omega
/-- the scopes, and the words, when the scope 1 is made -/
def fS0 : Sco := newS ⟨2, 4, 0, 512⟩
def fW0 : List Int := newWs 2 0 512
set_option maxRecDepth 100000 in
theorem made18 : (createS 512 fS0).2.l[1]? = some ⟨⟨1, 0, -1, 0⟩, (128, 512)⟩ ∧ fS0.l.length = 2 ∧ (∃ z, fS0.l[0]? = some z ∧ z.c.st = 2) ∧ createW 512 fS0 fW0 = wsL ⟨1, 0, -1, 0⟩ 0 0 (List.replicate 64 0) := by
 exact ⟨by kernel_rfl, by kernel_rfl, ⟨⟨immC, (128, 0)⟩, by kernel_rfl, by kernel_rfl⟩, by kernel_rfl⟩
theorem told18 (c : Ctl) : (createW 512 fS0 fW0).set 8 (word c) = oLW c [] := by
 rw [made18.2.2.2, wsL_setC]
 rfl
end Go.Proofs.YtbijaloeilnjoaaGreat

namespace Go.Proofs.YtbijaloeilnjoaaGreat
open Go.RowKit
set_option linter.unusedVariables false
set_option linter.unusedSimpArgs false


set_option maxRecDepth 100000 in
theorem plan18_any (w : World) : Calls Tryz.prog 16 #[] w fun r w' => r = .returned (.agg #[.int .i64 2, .int .i64 4, .int .i64 0, .int .i64 512]) ∧ Below w.heap.size w w' := by
 go_enter Tryz.func16, Tryz.ntmps16
 go_upto_region 1 with fail
 refine one_row w _ _ ?_
 intro W hR hB
 obtain ⟨x0, x1, x2, x3, f0, f1, f2, f3⟩ := box4 hR
 have z := lt_of_heap hR
 have HR := Lib.hid hR
 clear hR
 go_wp2_with fail
 refine bodyPost_ret (results_cell_row (fn := Tryz.f16) rfl _ _ w.heap.size 48 #[.int .i64 2, .int .i64 4, .int .i64 0, .int .i64 512] (0, 0) _ rfl (row_four HR.out) Tryz.underlying48 rfl (by kernel_rfl)) rfl ?_
 exact ⟨rfl, by go_grown⟩
theorem cal18 : CalOk ⟨2, 0, 0, 0, 512, 0, 0⟩ := ⟨by simp, by simp, by simp, by simp, ⟨by simp, by simp⟩, by simp, by simp⟩
theorem beg18 (ch : Sl) : rbeginRn 2 [] ⟨2, 0, 0, 0, 512, 0, 0⟩ (rregR 0 0 0 0 0) (rregR 0 0 0 0 0) ch = begR 2 true 511 ch := rfl
theorem does18 : does14 128 640 true 511 fS0 = (createS 512 fS0).2 ∧ words14 true 511 fS0 fW0 = createW 512 fS0 fW0 := by
 unfold does14 words14
 rw [show begA true 511 = 512 by decide]
 exact ⟨rfl, rfl⟩
abbrev al18Z (n t : Int) : Rn := ⟨⟨7, 0, 0, 0, n, 0, t⟩, 5, 1, 0, 0, noS, 0, 0, 0, 0, noS, 0, noS, 0, false, false, false, 0, 0, noS⟩
abbrev cal18A (n t : Int) : Array Value := #[.int .u8 7, .int .u8 0, .int .u8 0, .int .u8 0, .int .i64 n, .int .i64 0, .int .i64 t]
theorem cal18_one (n t : Int) : (cal18A n t).all (·.oneCell') = true := by simp [Value.oneCell']
set_option maxRecDepth 100000 in
theorem u8_bit0 : ∀ x : Fin 256, bits .and .u8 ((x.1 : Nat) : Int) 1 = ((x.1 : Nat) : Int) % 2 := by decide
theorem has_bits {h : Int} (h0 : 0 ≤ h) (h1 : h ≤ 255) (k : Nat) : bits .and .u8 (h / 2 ^ k) 1 = h / 2 ^ k % 2 := by
 have hp : (1 : Int) ≤ 2 ^ k := by have := Int.pow_pos (n := 2) (m := k) (by decide); omega
 have p0 : 0 ≤ h / 2 ^ k := Int.ediv_nonneg h0 (by omega)
 have p1 : h / 2 ^ k ≤ h := Int.ediv_le_self _ h0
 have := u8_bit0 ⟨(h / 2 ^ k).toNat, by omega⟩
 rwa [show (((⟨(h / 2 ^ k).toNat, by omega⟩ : Fin 256).1 : Nat) : Int) = h / 2 ^ k by simp; omega] at this
set_option maxRecDepth 100000 in
set_option maxHeartbeats 16000000 in
theorem laid_any (F : Sl) (lA : Option Addr) (lc : Nat) (ls : List Oj) (m : Int) (w : World) (hm : 1 ≤ m ∧ m ≤ 3) (hl : Cells w lA (ls.flatMap jCells)) (hok : ∀ o ∈ ls, OjOk o) (hl9 : ls.length ≤ maxLen) :
  Calls Tryz.prog 13 #[.slice F.a F.n F.c, .slice lA ls.length lc, .int .i64 m] w fun r w' => ∃ p b X q d, r = .returned (.tuple #[.pointer (some ⟨p, 0, none⟩), .pointer (some ⟨X, 0, none⟩)]) ∧ TwoW w.heap.size w' p b X q d 2 4 0 512 (wsL (c18 m) (8 * (used (obsOf ls) : Int)) 99 (extE (obsOf ls))) (wsL (c18 m) (8 * (used (obsOf ls) : Int)) 99 (extE (obsOf ls))) ∧ w'.cell? ⟨X, 4, none⟩ = some (.slice F.a F.n F.c) ∧ Below w.heap.size w w' := by
 have HL := Lib.hid hl
 have HOk := Lib.hid hok
 have Hl9 := Lib.hid hl9
 have HRc := Lib.hid (c18_right hm)
 have m0 : 0 ≤ m := by omega
 have m3 : m ≤ 3 := by omega
 have HM := Lib.hid hm
 have hl9I : (ls.length : Int) ≤ 9223372036854775807 := by unfold maxLen at hl9; omega
 clear hl hok hl9 hm
 obtain ⟨fA, fn, fc⟩ := F
 go_enter Tryz.func13, Tryz.ntmps13
 go_wp2_with fail
 refine (plan18_any _).mono ?_
 rintro r w1 ⟨rfl, hb⟩
 have B := Lib.hid hb
 clear hb
 go_wp2_with fail
 refine (foundNewG_any 2 4 0 512 _ plan18).mono ?_
 rintro r w2 ⟨p, b, g, gq, rfl, hA, hG, hl, hn, hb⟩
 have HF : Hid (Fs w1.heap.size w2 p b g gq 128 640 fS0 fW0) := Lib.hid (fs_new (t := 4) plan18 hA hG hl hn)
 have E1 := Lib.hid B.out.size
 replace B := Lib.hid (below_only B.out hb)
 clear hA hG hl hn hb
 go_wp2_with fail
 refine (plan18_any _).mono ?_
 rintro r w3 ⟨rfl, hb⟩
 replace HF := Lib.hid (HF.out.below hb)
 replace B := Lib.hid (below_only B.out hb)
 clear hb
 go_wp2_with fail
 refine (rallNewG_any ⟨fA, fn, fc⟩ 2 4 0 512 _ plan18).mono ?_
 rintro r w4 ⟨X, q, d, gp, gq2, rfl, hA, hX, hG, hn, hl2, hb⟩
 have HG : Hid (RFs w3.heap.size w4 X q d gp gq2 2 4 0 512 128 640 fS0 fW0) := Lib.hid (rfs_new (B := w3.heap.size) plan18 hA _ hX hG hn hl2)
 have HXF : Hid (w4.cell? ⟨X, 4, none⟩ = some (.slice fA fn fc)) := Lib.hid (by rw [row_cell hX]; rfl)
 have hlow := HG.out.lows
 have hlt4 := HF.out.lt
 have HNe : Hid (∀ j ∈ p :: FsT b g gq, j ∉ [X, q, d, gp, gq2]) := Lib.hid (fun j hj => by
  have h9 : j < w3.heap.size := by
   rcases List.mem_cons.1 hj with rfl | hm
   ·exact hlt4.1
   ·exact (HF.out.ges j hm).2
  simp; omega)
 have E3 : Hid (w1.heap.size ≤ w3.heap.size) := Lib.hid (by have h1 := (HF.out.ges b (by simp)); omega)
 clear hlow hlt4
 replace HF := Lib.hid (HF.out.below hb)
 replace B := Lib.hid (below_only B.out hb)
 clear hA hX hG hn hl2 hb
 go_wp2_with fail
 refine (plan18_any _).mono ?_
 rintro r w5 ⟨rfl, hb⟩
 replace HF := Lib.hid (HF.out.below hb)
 replace HXF := Lib.hid ((Below.cell hb HG.out.lt.1 (p := ⟨X, 4, none⟩)).trans HXF.out)
 replace HG := Lib.hid (HG.out.below hb)
 replace B := Lib.hid (below_only B.out hb)
 clear hb
 go_wp2_with fail
 have hr4 : (w5.alloc (.cells #[.int .u64 0, .int .u64 0, .int .u64 0, .int .u64 0] 36)).heap[w5.heap.size]? = _ := row_new _ _ _
 obtain ⟨k0, k1, k2, k3, _⟩ := box4 hr4
 have hba : Below w5.heap.size w5 (w5.alloc (.cells #[.int .u64 0, .int .u64 0, .int .u64 0, .int .u64 0] 36)) := by go_grown
 refine (rof_any ⟨2, 4, 0, 512⟩ none 0 [] ⟨2, 0, 0, 0, 512, 0, 0⟩ 0 0 0 0 w5.heap.size 0 4 _ (by simp) (by simp) (Cells.nil) (by simp) (by simp) cal18 (by simp) (by simp) (by simp) (by simp) (by simp) k0 k1 k2 k3 (.inl rfl)).mono ?_
 rintro r wA ⟨kc, cA, rfl, hcs, hnew, hb⟩
 rw [beg18]
 have hb' := below_only hba hb
 replace HF := Lib.hid (HF.out.below hb')
 replace HXF := Lib.hid ((Below.cell hb' HG.out.lt.1 (p := ⟨X, 4, none⟩)).trans HXF.out)
 replace HG := Lib.hid (HG.out.below hb')
 replace B := Lib.hid (below_only B.out hb')
 clear hb hb' hba hr4 k0 k1 k2 k3 hcs hnew
 obtain ⟨r0, Hr0⟩ : ∃ x : Rn, Hid (x = begR 2 true 511 ⟨cA, 0, kc⟩) := ⟨_, Lib.hid rfl⟩
 have Hr0' : Hid ((⟨cA, ([] : List Ent).length, kc⟩ : Sl) = ⟨cA, 0, kc⟩) := Lib.hid rfl
 rw [Hr0'.out, ← Hr0.out]
 clear Hr0'
 go_upto_region 6 with (refine wpList_store_row rfl 43 (.tmp 12) (.tmp 41) rfl wA.heap.size r0.arr rfl rfl 43 ZRun (row_new _ _ _) infoRun rfl (Rn.one _) ?_; (try simp only [zA, zB, zC, zD, zE]))
 refine alloc_set' wA _ _ _ ?_
 intro wB hr hb
 have hf1 := HF.out.fresh (Nat.le_refl wA.heap.size)
 have hf2 := HF.out.lt
 have hf3 := HG.out.lt
 have hlB := B.out.size
 obtain ⟨gc, hgc⟩ : ∃ x, x = wA.heap.size := ⟨_, rfl⟩
 rw [← hgc] at hr hf1 ⊢
 replace HF := Lib.hid (HF.out.below hb)
 replace HXF := Lib.hid ((Below.cell hb HG.out.lt.1 (p := ⟨X, 4, none⟩)).trans HXF.out)
 replace HG := Lib.hid (HG.out.below hb)
 replace B := Lib.hid (below_only B.out hb)
 have RC := Lib.hid hr
 have NF_c : Hid (gc ∉ p :: FsT b g gq) := Lib.hid (by intro hm; rcases List.mem_cons.1 hm with h | h; omega; exact hf1 h)
 have NG_c : Hid (gc ∉ [X, q, d, gp, gq2]) := Lib.hid (by simp; omega)
 clear hgc hr hb hf1 hf2 hf3 hlB
 go_wp2_with (first | (refine wpList_load_row rfl 43 (.tmp 12) rfl gc rfl 43 r0.arr (0, 0) _ RC.out undRun rfl infoRun ?_; (try simp only [zA, zB, zC, zD, zE])))
 rw [Hr0.out]
 refine (rmake_any w3.heap.size X q d gp gq2 2 4 0 512 128 640 fS0 fW0 true 511 ⟨cA, 0, kc⟩ _ plan18 HG.out (by rw [made18.2.1]; rfl) made18.2.2.1 rfl).mono ?_
 rintro r wD ⟨rfl, hG, hK⟩
 rw [does18.1, does18.2] at hG
 replace HF := Lib.hid (HF.out.kept hK (fun j hj hm => HNe.out j hm (by simp at hj ⊢; omega)))
 replace RC := Lib.hid (hK.row RC.out (fun hm => NG_c.out (by simp at hm ⊢; omega)))
 replace HXF := Lib.hid (hK.cell (p := ⟨X, 4, none⟩) HXF.out (by have h1 := HG.out.ne; have h2 := HG.out.all.ne; simp; omega))
 replace B := Lib.hid (Keep.under B.out hK (by have := B.out.size; omega) (fun j hj => by have := HG.out.lows; have := E3.out; have := E1.out; simp at hj; omega))
 replace HG := Lib.hid hG
 clear hG hK
 go_upto_region 7 with fail
 refine wp_region_held_drew (S := fun W => W.heap[gc]? = some (.cells r0.arr 43 (0, 0))) (by kernel_rfl) (show wD.drew.heap[gc]? = _ from RC.out) ?_
 intro hS
 have hd9 : Below wD.heap.size wD wD.drew := Below.drew (Below.refl _ _)
 replace HF := Lib.hid (HF.out.below hd9)
 replace HXF := Lib.hid ((Below.cell hd9 HG.out.lt.1 (p := ⟨X, 4, none⟩)).trans HXF.out)
 replace HG := Lib.hid (HG.out.below hd9)
 replace B := Lib.hid (below_only B.out hd9)
 clear hd9 RC
 generalize wD.drew = y0 at hS HF HXF HG B ⊢
 refine tk (i := 1) (v := ?v1x1) (some 46) rfl rfl (Or.inl ⟨by kernel_rfl, ?h1x1⟩) ?r1x1
 case h1x1 => (intro w' hSw; go_simp; first | done | (with_reducible rfl))
 try simp only [zA, zB, zC, zD, zE]
 refine tk (i := 2) (v := ?v2x2) (some 47) rfl rfl (Or.inl ⟨by kernel_rfl, ?h2x2⟩) ?r2x2
 case h2x2 => (intro w' hSw; go_simp; first | done | (with_reducible rfl))
 try simp only [zA, zB, zC, zD, zE]
 refine tk (i := 3) (v := .agg r0.arr) (some 48) rfl rfl (yieldsIf_load_row (by kernel_rfl) 43 (.tmp 12) rfl gc rfl r0.arr (fun W' hW' => hW') undRun rfl infoRun) ?_
 try simp only [zA, zB, zC, zD, zE]
 refine wpAnyH_ready (rs := [0]) (by kernel_rfl) (by simp) ?_
 refine AllReadyH.cons rfl (fun K hK => ?_) AllReadyH.nil
 go_simp
 refine (plan18_any _).mono ?_
 rintro e' yA ⟨rfl, hb⟩
 go_simp
 replace HF := Lib.hid (HF.out.below hb)
 replace HXF := Lib.hid ((Below.cell hb HG.out.lt.1 (p := ⟨X, 4, none⟩)).trans HXF.out)
 replace HG := Lib.hid (HG.out.below hb)
 replace B := Lib.hid (below_only B.out hb)
 refine hK.out _ _ (row_below hS hb) (fun hS => ?_)
 clear hK K
 try simp only [zA, zB, zC, zD, zE]
 clear hb
 refine wpAnyH_ready (rs := [4]) (by kernel_rfl) (by simp) ?_
 refine AllReadyH.cons rfl (fun K hK => ?_) AllReadyH.nil
 go_simp
 rw [Hr0.out]
 refine (fstep14_any w1.heap.size p b g gq 128 640 fS0 fW0 2 4 0 512 true 511 ⟨cA, 0, kc⟩ _ plan18 HF.out (by rw [made18.2.1]; rfl) rfl).mono ?_
 rintro r yB ⟨gq', rfl, hF, hq, hk9⟩
 rw [does18.1, does18.2] at hF
 go_simp
 have hmF : ∀ x, x ∉ p :: FsT b g gq → x ∉ FsT b g gq := fun x h hm => h (List.mem_cons_of_mem _ hm)
 have HX9 : Hid (RAll yB X q d 2 4 0 512 (createW 512 fS0 fW0)) := Lib.hid (HG.out.all.kept hk9 (fun hm => HNe.out X (List.mem_cons_of_mem _ hm) (by simp)) (fun hm => HNe.out q (List.mem_cons_of_mem _ hm) (by simp)) (fun hm => HNe.out d (List.mem_cons_of_mem _ hm) (by simp)))
 replace HXF := Lib.hid (hk9.cell (p := ⟨X, 4, none⟩) HXF.out (fun hm => HNe.out X (List.mem_cons_of_mem _ hm) (by simp)))
 have HN9 : Hid (X ≠ b ∧ q ≠ b ∧ d ≠ b ∧ p ≠ d) := Lib.hid (by have h1 := HNe.out b (by simp); have h2 := HNe.out p (by simp); simp at h1 h2; omega)
 have HL9 : Hid (w.heap.size ≤ p ∧ w.heap.size ≤ b ∧ w.heap.size ≤ X ∧ w.heap.size ≤ q ∧ w.heap.size ≤ d) := Lib.hid (by have h1 := HF.out.low; have h2 := HG.out.lows; have h3 := E3.out; have h4 := E1.out; omega)
 replace B := Lib.hid (Keep.under B.out hk9 (by have := B.out.size; omega) (fun j hj => Nat.le_trans E1.out (HF.out.ges j hj).1))
 refine hK.out _ _ (hk9.row hS (hmF _ NF_c.out)) (fun hS => ?_)
 clear hK K
 try simp only [zA, zB, zC, zD, zE]
 have HT : Hid (TwoW w.heap.size yB p b X q d 2 4 0 512 (createW 512 fS0 fW0) (createW 512 fS0 fW0)) := Lib.hid ⟨hF.a, HX9.out, HL9.out, HN9.out⟩
 clear hF hq hk9 hmF HX9 HN9 HL9 HF HG HNe NF_c NG_c E1 E3 hS Hr0
 refine wpAnyH_done (by kernel_rfl) ?_ _
 have HWL : Hid ((createW 512 fS0 fW0).length = 80 ∧ (createW 512 fS0 fW0)[8]? = some (word ⟨1, 0, -1, 0⟩)) := Lib.hid (by rw [made18.2.2.2]; exact ⟨rfl, rfl⟩)
 have HWT : Hid ((createW 512 fS0 fW0).set 8 (word (c18 m)) = oLW (c18 m) []) := Lib.hid (told18 _)
 obtain ⟨WA, HWA⟩ : ∃ x, Hid (createW 512 fS0 fW0 = x) := ⟨_, Lib.hid rfl⟩
 rw [HWA.out] at HT HWL HWT
 clear HWA
 go_wp2_with fail
 refine (rallTell_any X q d 2 4 0 512 WA 8 (word ⟨1, 0, -1, 0⟩) 1 (c18 m) _ HT.out.x HWL.out.2 (by decide) (by decide) HRc.out).mono ?_
 rintro r z1 ⟨rfl, hX, hK⟩
 rw [HWT.out] at hX
 replace HXF := Lib.hid (hK.cell (p := ⟨X, 4, none⟩) HXF.out (by simpa using HT.out.x.ne))
 have hszK := hK.size
 replace B := Lib.hid (HT.out.under B.out hK (by simp))
 replace HT := Lib.hid (HT.out.onX hX hK)
 clear hX hK hszK
 have HC4 : Hid ((c18 m).ep = 4) := Lib.hid rfl
 obtain ⟨c, Hc⟩ : ∃ x, Hid (c18 m = x) := ⟨_, Lib.hid rfl⟩
 rw [Hc.out] at HT HRc HC4
 clear HWT
 go_wp2_with fail
 go_loopw [13] (fun tt wz => ∃ i : Nat, i ≤ min ls.length 8 ∧ tt = .int .i64 i ∧ TwoW w.heap.size wz p b X q d 2 4 0 512 WA (oLW c (obsN ls i)) ∧ wz.cell? ⟨X, 4, none⟩ = some (.slice fA fn fc) ∧ Below w.heap.size w wz) (fun t _ => (8 - intOf t).toNat)
 case atStart => exact ⟨0, by omega, rfl, HT.out, HXF.out, B.out⟩
 case round =>
  clear HT HXF B
  obtain ⟨i, hi, rfl, hT, hxf, hB⟩ := hrel
  have HT := Lib.hid hT
  have HXF := Lib.hid hxf
  have B := Lib.hid hB
  clear hT hxf hB
  have i0I : (0 : Int) ≤ (i : Int) := by omega
  by_cases hin : i < min ls.length 8
  ·skip
   obtain ⟨y, hy⟩ : ∃ y, ls[i]? = some y := ⟨_, List.getElem?_eq_getElem (by omega)⟩
   have hsc := obsN_succ hy
   obtain ⟨ys, yh, yt, yd⟩ := y
   obtain ⟨⟨s0, s1⟩, ⟨h0, h1⟩, ⟨t0, t1⟩⟩ := HOk.out _ (List.mem_of_getElem? hy)
   dsimp only at s0 s1 h0 h1 t0 t1
   obtain ⟨obs, Hobs⟩ : ∃ x, Hid (obsN ls i = x) := ⟨_, Lib.hid rfl⟩
   have Hsc := Lib.hid hsc
   have HU : Hid (used obs + 8 ≤ 64) := Lib.hid (by rw [← Hobs.out]; exact obsN_used ls (by omega))
   rw [Hobs.out] at HT Hsc
   clear hsc
   obtain ⟨bl, ol, hlA, hbl, hlc⟩ := j_at HL.out (by omega)
   obtain ⟨hc0, hc1, hc2, hc3⟩ := hlc i _ hy
   have HJ := Lib.hid (And.intro hc0 (And.intro hc1 (And.intro hc2 (And.intro hc3 hbl))))
   dsimp only at HJ
   clear hc0 hc1 hc2 hc3 hbl hlc
   have Hy := Lib.hid hy
   clear hy
   subst hlA
   have iL : (i : Int) < (ls.length : Int) := by omega
   have i8 : (i : Int) < 8 := by omega
   have iLN : i < ls.length := by omega
   obtain ⟨n, Hn⟩ : ∃ n : Nat, Hid (Oj.n ⟨ys, yh, yt, yd⟩ = n ∧ ys % 7 = (n : Int) ∧ n ≤ 6) := ⟨_, Lib.hid ⟨rfl, by unfold Oj.n; dsimp only; omega, Oj.n6 _⟩⟩
   obtain ⟨tg, Htg⟩ : ∃ n : Nat, Hid (Oj.tg ⟨ys, yh, yt, yd⟩ = n ∧ yt % 8 = (n : Int) ∧ n < 8) := ⟨_, Lib.hid ⟨rfl, by unfold Oj.tg; dsimp only; omega, Oj.t7 _⟩⟩
   have hsm : ys.tmod 7 = (n : Int) := by rw [Int.tmod_eq_emod_of_nonneg s0]; exact Hn.out.2.1
   have htm : yt.tmod 8 = (tg : Int) := by rw [Int.tmod_eq_emod_of_nonneg t0]; exact Htg.out.2.1
   have n6 : (n : Int) ≤ 6 := by have := Hn.out; omega
   have n0 : (0 : Int) ≤ (n : Int) := by omega
   have tg7 : (tg : Int) ≤ 7 := by have := Htg.out; omega
   have tg0 : (0 : Int) ≤ (tg : Int) := by omega
   go_upto_region 12 with fail
   have hnw : IntKind.i64.wrap (n : Int) = (n : Int) := IntWalk.i64_in _ (by omega)
   have htw : IntKind.i64.wrap (tg : Int) = (tg : Int) := IntWalk.i64_in _ (by omega)
   have hyw : IntKind.i64.wrap ys = ys := IntWalk.i64_in _ (by omega)
   have hzw : IntKind.i64.wrap yt = yt := IntWalk.i64_in _ (by omega)
   refine wp_region_held_drew (S := fun W => W.cell? ⟨bl, ol + i * 4, none⟩ = some (.int .u8 ys) ∧ W.cell? ⟨bl, ol + i * 4 + 2, none⟩ = some (.int .u8 yt) ∧ bl < W.heap.size) (by kernel_rfl) (show wr.drew.cell? _ = _ ∧ wr.drew.cell? _ = _ ∧ bl < wr.drew.heap.size from ⟨(Below.cell (below_only B.out (Below.drew (Below.refl wr.heap.size wr))) HJ.out.2.2.2.2 (p := ⟨bl, ol + i * 4, none⟩)).trans HJ.out.1, (Below.cell (below_only B.out (Below.drew (Below.refl wr.heap.size wr))) HJ.out.2.2.2.2 (p := ⟨bl, ol + i * 4 + 2, none⟩)).trans HJ.out.2.2.1, Nat.lt_of_lt_of_le HJ.out.2.2.2.2 ((below_only B.out (Below.drew (Below.refl wr.heap.size wr)))).size⟩) ?_
   intro hS
   have hB0 : Below wr.heap.size wr wr.drew := Below.drew (Below.refl _ _)
   generalize wr.drew = y0 at hS hB0 ⊢
   refine tk (i := 0) (v := ?v0x3) (some 64) rfl rfl (Or.inl ⟨by kernel_rfl, ?h0x3⟩) ?r0x3
   case h0x3 => (intro w' hSw; obtain ⟨c0, c2, zb⟩ := hSw; go_simp; first | done | (with_reducible rfl))
   try simp only [zA, zB, zC, zD, zE]
   refine tk (i := 1) (v := ?v1x4) (some 65) rfl rfl (Or.inl ⟨by kernel_rfl, ?h1x4⟩) ?r1x4
   case h1x4 => (intro w' hSw; obtain ⟨c0, c2, zb⟩ := hSw; go_simp; first | done | (with_reducible rfl))
   try simp only [zA, zB, zC, zD, zE]
   refine tk (i := 2) (v := ?v2x5) (some 66) rfl rfl (Or.inl ⟨by kernel_rfl, ?h2x5⟩) ?r2x5
   case h2x5 => (intro w' hSw; obtain ⟨c0, c2, zb⟩ := hSw; go_simp; first | done | (with_reducible rfl))
   try simp only [zA, zB, zC, zD, zE]
   refine tk (i := 3) (v := ?v3x6) (some 67) rfl rfl (Or.inl ⟨by kernel_rfl, ?h3x6⟩) ?r3x6
   case h3x6 => (intro w' hSw; obtain ⟨c0, c2, zb⟩ := hSw; go_simp; first | done | (with_reducible rfl))
   try simp only [zA, zB, zC, zD, zE]
   refine tk (i := 4) (v := ?v4x7) (some 68) rfl rfl (Or.inl ⟨by kernel_rfl, ?h4x7⟩) ?r4x7
   case h4x7 => (intro w' hSw; obtain ⟨c0, c2, zb⟩ := hSw; go_simp; first | done | (with_reducible rfl))
   try simp only [zA, zB, zC, zD, zE]
   refine tk (i := 5) (v := ?v5x8) (some 69) rfl rfl (Or.inl ⟨by kernel_rfl, ?h5x8⟩) ?r5x8
   case h5x8 => (intro w' hSw; obtain ⟨c0, c2, zb⟩ := hSw; go_simp; first | done | (with_reducible rfl))
   try simp only [zA, zB, zC, zD, zE]
   refine tk (i := 6) (v := ?v6x9) (some 70) rfl rfl (Or.inl ⟨by kernel_rfl, ?h6x9⟩) ?r6x9
   case h6x9 => (intro w' hSw; obtain ⟨c0, c2, zb⟩ := hSw; go_simp; first | done | (with_reducible rfl))
   try simp only [zA, zB, zC, zD, zE]
   refine tk (i := 7) (v := ?v7x10) (some 71) rfl rfl (Or.inl ⟨by kernel_rfl, ?h7x10⟩) ?r7x10
   case h7x10 => (intro w' hSw; obtain ⟨c0, c2, zb⟩ := hSw; go_simp; first | done | (with_reducible rfl))
   try simp only [zA, zB, zC, zD, zE]
   refine tk (i := 8) (v := ?v8x11) (some 72) rfl rfl (Or.inl ⟨by kernel_rfl, ?h8x11⟩) ?r8x11
   case h8x11 => (intro w' hSw; obtain ⟨c0, c2, zb⟩ := hSw; go_simp; first | done | (with_reducible rfl))
   try simp only [zA, zB, zC, zD, zE]
   refine tk (i := 9) (v := ?v9x12) (some 73) rfl rfl (Or.inl ⟨by kernel_rfl, ?h9x12⟩) ?r9x12
   case h9x12 => (intro w' hSw; obtain ⟨c0, c2, zb⟩ := hSw; go_simp; first | done | (with_reducible rfl))
   try simp only [zA, zB, zC, zD, zE]
   refine tk (i := 10) (v := ?v10x13) (some 74) rfl rfl (Or.inl ⟨by kernel_rfl, ?h10x13⟩) ?r10x13
   case h10x13 => (intro w' hSw; obtain ⟨c0, c2, zb⟩ := hSw; go_simp; first | done | (with_reducible rfl))
   try simp only [zA, zB, zC, zD, zE]
   refine tk (i := 11) (v := ?v11x14) (some 75) rfl rfl (Or.inl ⟨by kernel_rfl, ?h11x14⟩) ?r11x14
   case h11x14 => (intro w' hSw; obtain ⟨c0, c2, zb⟩ := hSw; go_simp; first | done | (with_reducible rfl))
   try simp only [zA, zB, zC, zD, zE]
   refine tk (i := 12) (v := ?v12x15) (some 76) rfl rfl (Or.inl ⟨by kernel_rfl, ?h12x15⟩) ?r12x15
   case h12x15 => (intro w' hSw; obtain ⟨c0, c2, zb⟩ := hSw; go_simp; first | done | (with_reducible rfl))
   try simp only [zA, zB, zC, zD, zE]
   refine tk (i := 13) (v := ?v13x16) (some 77) rfl rfl (Or.inl ⟨by kernel_rfl, ?h13x16⟩) ?r13x16
   case h13x16 => (intro w' hSw; obtain ⟨c0, c2, zb⟩ := hSw; go_simp; first | done | (with_reducible rfl))
   try simp only [zA, zB, zC, zD, zE]
   refine tk (i := 14) (v := ?v14x17) (some 78) rfl rfl (Or.inl ⟨by kernel_rfl, ?h14x17⟩) ?r14x17
   case h14x17 => (intro w' hSw; obtain ⟨c0, c2, zb⟩ := hSw; go_simp; first | done | (with_reducible rfl))
   try simp only [zA, zB, zC, zD, zE]
   refine wpAnyH_ready (rs := [15]) (by kernel_rfl) (by simp) ?_
   refine AllReadyH.cons rfl (fun K hK => ?_) AllReadyH.nil
   go_simp
   refine k_alloc (fun yZ hZ hb => ?_)
   obtain ⟨gl, HgZ⟩ : ∃ x, x = y0.heap.size := ⟨_, rfl⟩
   have hgl : wr.heap.size ≤ gl := by rw [HgZ]; exact hB0.size
   replace hB0 := below_only hB0 hb
   rw [← HgZ] at hZ ⊢
   clear HgZ hb
   refine hK.out _ _ (⟨(Below.cell (below_only B.out hB0) HJ.out.2.2.2.2 (p := ⟨bl, ol + i * 4, none⟩)).trans HJ.out.1, (Below.cell (below_only B.out hB0) HJ.out.2.2.2.2 (p := ⟨bl, ol + i * 4 + 2, none⟩)).trans HJ.out.2.2.1, Nat.lt_of_lt_of_le HJ.out.2.2.2.2 ((below_only B.out hB0)).size⟩) (fun hS => ?_)
   clear hK K
   try simp only [zA, zB, zC, zD, zE]
   refine wpAnyH_ready (rs := [16]) (by kernel_rfl) (by simp) ?_
   refine AllReadyH.cons rfl (fun K hK => ?_) AllReadyH.nil
   refine step_store_row none rfl rfl 35 (.tmp 14) (.tmp 78) rfl gl (cal18A n tg) rfl rfl 35 _ hZ infoCal7 rfl (cal18_one _ _) ?_
   have hw : (yZ.setRow gl (cal18A n tg)).heap[gl]? = some (.cells (cal18A n tg) 35 (0, 0)) := setRow_heap _ _ _ _ _ _ hZ
   have hbw : Below wr.heap.size wr (yZ.setRow gl (cal18A n tg)) := below_setRow hB0 hgl _
   refine hK.out _ _ (⟨(Below.cell (below_only B.out hbw) HJ.out.2.2.2.2 (p := ⟨bl, ol + i * 4, none⟩)).trans HJ.out.1, (Below.cell (below_only B.out hbw) HJ.out.2.2.2.2 (p := ⟨bl, ol + i * 4 + 2, none⟩)).trans HJ.out.2.2.1, Nat.lt_of_lt_of_le HJ.out.2.2.2.2 ((below_only B.out hbw)).size⟩) (fun hS => ?_)
   clear hK K
   try simp only [zA, zB, zC, zD, zE]
   refine wpAnyH_done (by kernel_rfl) ?_ _
   clear hS hB0 hZ
   generalize yZ.setRow gl (cal18A n tg) = x1 at hw hbw ⊢
   clear hnw htw hyw hzw
   have N_l : Hid (gl ∉ [p, b, X, q, d]) := Lib.hid (HT.out.fresh hgl)
   have L_l : Hid (w.heap.size ≤ gl) := Lib.hid (by have := B.out.size; omega)
   have H_l : Hid (x1.heap[gl]? = some (.cells (cal18A n tg) 35 (0, 0))) := Lib.hid hw
   replace HXF := Lib.hid ((Below.cell hbw (HT.out.lt X (by simp)) (p := ⟨X, 4, none⟩)).trans HXF.out)
   replace HT := Lib.hid (HT.out.below hbw)
   replace B := Lib.hid (below_only B.out hbw)
   clear hw hbw hgl
   go_upto_region 14 with (first | (refine wpList_load_row rfl 35 (.tmp 14) rfl gl rfl 35 (cal18A n tg) (0, 0) _ H_l.out undCal7 rfl infoCal7 ?_; (try simp only [zA, zB, zC, zD, zE])) | (refine wpList_store_row rfl 43 (.tmp 15) (.tmp 80) rfl x1.heap.size (al18Z n tg).arr rfl rfl 43 ZRun (row_new _ _ _) infoRun rfl (Rn.one _) ?_; (try simp only [zA, zB, zC, zD, zE])))
   obtain ⟨r0, Hr0⟩ : ∃ x, Hid (al18 n tg = x) := ⟨_, Lib.hid rfl⟩
   have HAr : Hid ((al18Z n tg).arr = r0.arr) := Lib.hid (by rw [← Hr0.out]; rfl)
   have HR0 : Hid (TkRun 1 c 128 512 noS r0 ∧ r0.pc = 5) := Lib.hid (by rw [← Hr0.out]; exact ⟨al18_run Hn.out.2.2 Htg.out.2.2 c, rfl⟩)
   obtain ⟨u, Hu⟩ : ∃ x : Nat, Hid (used obs = x) := ⟨_, Lib.hid rfl⟩
   obtain ⟨tp, Htp⟩ : ∃ x : Int, Hid (8 * (u : Int) = x) := ⟨_, Lib.hid rfl⟩
   have HBl : Hid (BlkOk 2 (oLW c obs) 1 c 128 512 tp) := Lib.hid (by have h9 := blk18 HRc.out (obs := obs) (by have := HU.out; omega); rw [Hu.out, Htp.out] at h9; exact h9)
   have HoN : Hid (stepsW (oLW c obs) 1 c 128 512 tp r0 4 = oLW c (obs ++ [obK ⟨ys, yh, yt, yd⟩ 0]) ∧ (stepsR c 128 512 tp r0 4).an = hdl 1 4 (16 + (u : Int))) := Lib.hid (by
    have h9 := take18 HC4.out (obs := obs) (n := n) (tg := tg) (by have := HU.out; have := Hn.out; omega)
    rw [Hr0.out, Hu.out, Htp.out] at h9
    rw [obK_0, Hn.out.1, Htg.out.1]
    exact h9)
   obtain ⟨hv, Hhv⟩ : ∃ x : Int, Hid (hdl 1 4 (16 + (u : Int)) = x) := ⟨_, Lib.hid rfl⟩
   rw [Hhv.out] at HoN
   have Hhv9 : Hid (hv % 16777216 = 16 + (u : Int) ∧ 0 ≤ hv ∧ hv ≤ 1000000000000 ∧ (u : Int) ≤ 56) := Lib.hid (by have := Hhv.out; have := HU.out; have := Hu.out; unfold hdl at *; omega)
   obtain ⟨ws, Hws⟩ : ∃ x, Hid (oLW c obs = x) := ⟨_, Lib.hid rfl⟩
   rw [Hws.out] at HBl HoN HT
   rw [HAr.out]
   clear Hws Hhv HAr
   refine alloc_set' x1 _ _ _ ?_
   intro x2 hr hb
   have hlB := B.out.size
   have hfr := HT.out.fresh (Nat.le_refl x1.heap.size)
   have hl_l := lt_of_heap H_l.out
   replace HXF := Lib.hid ((Below.cell hb (HT.out.lt X (by simp)) (p := ⟨X, 4, none⟩)).trans HXF.out)
   have hsz := (hb).size
   replace H_l := Lib.hid (row_below H_l.out hb)
   replace HT := Lib.hid (HT.out.below hb)
   replace B := Lib.hid (below_only B.out hb)
   clear hb hsz
   have H_c := Lib.hid (show x2.heap[x1.heap.size]? = some (.cells r0.arr 43 (0, 0)) from hr)
   clear hr
   obtain ⟨g_c, hg_c⟩ : ∃ x, x = x1.heap.size := ⟨_, rfl⟩
   rw [← hg_c] at H_c ⊢
   have N_c : Hid (g_c ∉ [p, b, X, q, d]) := Lib.hid (by rw [hg_c]; exact hfr)
   have M_l_c : Hid (gl ≠ g_c) := Lib.hid (by omega)
   have M_c_l : Hid (g_c ≠ gl) := Lib.hid (by omega)
   have L_c : Hid (w.heap.size ≤ g_c) := Lib.hid (by omega)
   clear hfr hl_l hg_c hlB
   go_wp2_with fail
   have hz : stepsR c 128 512 tp r0 0 = r0 ∧ stepsW ws 1 c 128 512 tp r0 0 = ws := ⟨rfl, rfl⟩
   rw [← hz.1] at H_c
   have HT1 : Hid (TwoW w.heap.size x2 p b X q d 2 4 0 512 WA (stepsW ws 1 c 128 512 tp r0 0)) := Lib.hid (by rw [hz.2]; exact HT.out)
   clear hz HT
   have HT := HT1
   clear HT1
   go_loopw [16] (fun tt wz => ∃ j : Nat, j ≤ 4 ∧ tt = .int .i64 j ∧ wz.cell? ⟨X, 4, none⟩ = some (.slice fA fn fc) ∧ wz.heap[gl]? = some (.cells (cal18A n tg) 35 (0, 0)) ∧ wz.heap[g_c]? = some (.cells (stepsR c 128 512 tp r0 j).arr 43 (0, 0)) ∧ TwoW w.heap.size wz p b X q d 2 4 0 512 WA (stepsW ws 1 c 128 512 tp r0 j) ∧ Below w.heap.size w wz) (fun t _ => (4 - intOf t).toNat)
   case atStart => exact ⟨0, by omega, rfl, HXF.out, H_l.out, H_c.out, HT.out, B.out⟩
   case round =>
    clear HXF H_l H_c HT B
    obtain ⟨j, hj, rfl, hrel⟩ := hrel
    obtain ⟨hq_HXF, hq_H_l, hq_H_c, hq_HT, hq_B⟩ := hrel
    have HXF := Lib.hid hq_HXF
    have H_l := Lib.hid hq_H_l
    have H_c := Lib.hid hq_H_c
    have HT := Lib.hid hq_HT
    have B := Lib.hid hq_B
    clear hq_HXF hq_H_l hq_H_c hq_HT hq_B
    by_cases hj4 : j < 4
    ·skip
     have hjI : (j : Int) < 4 := by omega
     obtain ⟨RR, HRq⟩ : ∃ R, Hid (R = (stepsR c 128 512 tp r0 j)) := ⟨_, Lib.hid rfl⟩
     rw [← HRq.out] at H_c
     go_wp2_with (first | (refine wpList_load_row rfl 43 (.tmp 15) rfl g_c rfl 43 RR.arr (0, 0) _ H_c.out undRun rfl infoRun ?_; (try simp only [zA, zB, zC, zD, zE])))
     rw [HRq.out]
     refine (rsteps16_any X q d 1 2 4 0 512 ws c 128 512 tp noS r0 j _ HBl.out HR0.out.1 HR0.out.2 hj4 HT.out.x).mono ?_
     rintro r y5 ⟨rfl, hX, hK⟩
     obtain ⟨R2, HR2⟩ : ∃ R, Hid (R = (stepsR c 128 512 tp r0 (j + 1))) := ⟨_, Lib.hid rfl⟩
     rw [← HR2.out]
     replace HXF := Lib.hid (hK.cell (p := ⟨X, 4, none⟩) HXF.out (by simpa using HT.out.x.ne))
     have hszK := hK.size
     replace H_l := Lib.hid (hK.row H_l.out (by simpa using (HT.out.nb N_l.out).2))
     replace H_c := Lib.hid (hK.row H_c.out (by simpa using (HT.out.nb N_c.out).2))
     replace B := Lib.hid (HT.out.under B.out hK (by simp))
     replace HT := Lib.hid (HT.out.onX hX hK)
     clear hX hK hszK
     go_upto_region 16 with (first | (refine wpList_store_row rfl 43 (.tmp 15) (.tmp 87) rfl g_c R2.arr rfl rfl 43 RR.arr H_c.out infoRun rfl (Rn.one _) ?_; (try simp only [zA, zB, zC, zD, zE])))
     refine set_row' y5 g_c _ _ _ H_c.out ?_
     intro y6 hr hK
     have hszK := hK.size
     replace H_l := Lib.hid (hK.row H_l.out (by simpa using M_l_c.out))
     replace HT := Lib.hid (HT.out.kept hK (fun j hj => by simp only [List.mem_singleton] at hj; subst hj; exact N_c.out))
     replace B := Lib.hid (Keep.under B.out hK (by have := B.out.size; omega) (by simp; exact L_c.out))
     replace H_c := Lib.hid hr
     replace HXF := Lib.hid (hK.cell (p := ⟨X, 4, none⟩) HXF.out (by have h9 := N_c.out; simp at h9 ⊢; omega)); clear hr hK hszK
     rw [HR2.out] at H_c
     go_wp2_with fail
     go_roundw
     case rel => exact ⟨j + 1, by omega, by go_num, HXF.out, H_l.out, H_c.out, HT.out, B.out⟩
     case measure => simp [intOf]; omega
    ·skip
     have hj9 : j = 4 := by omega
     rw [hj9] at H_c HT
     have hjI : ¬ ((j : Int) < 4) := by omega
     clear hj4 hj hj9
     obtain ⟨re, Hre⟩ : ∃ x, Hid ((stepsR c 128 512 tp r0 4) = x) := ⟨_, Lib.hid rfl⟩
     rw [Hre.out] at H_c HoN
     rw [HoN.out.1] at HT
     obtain ⟨_, hv0, hv1, u56⟩ := Hhv9.out
     have hand : bits .and .i64 hv 16777215 = 16 + (u : Int) := by rw [mask24]; exact Hhv9.out.1
     have hat1 : IntKind.i64.wrap (8 * (16 + (u : Int))) = 8 * (16 + (u : Int)) := IntWalk.i64_in _ (by omega)
     have u0 : (0 : Int) ≤ (u : Int) := by omega
     have c_24 : wr.cell? ⟨g_c, 24, none⟩ = some (.int .i64 hv) := by rw [row_cell H_c.out]; rw [← HoN.out.2]; rfl
     have z_c := lt_of_heap H_c.out
     go_upto_region 20 with fail
     clear c_24 z_c
     clear H_c N_c M_l_c M_c_l L_c HR0 HBl HoN Hre hand hat1 hv0 hv1 Hhv9
     go_loopw [18] (fun tt wz => ∃ k : Nat, k ≤ n ∧ tt = .int .i64 k ∧ wz.cell? ⟨X, 4, none⟩ = some (.slice fA fn fc) ∧ wz.heap[gl]? = some (.cells (cal18A n tg) 35 (0, 0)) ∧ TwoW w.heap.size wz p b X q d 2 4 0 512 WA (oLW c (obs ++ [obK ⟨ys, yh, yt, yd⟩ k])) ∧ Below w.heap.size w wz) (fun t _ => (n - (intOf t).toNat))
     case atStart => exact ⟨0, by omega, rfl, HXF.out, H_l.out, HT.out, B.out⟩
     case round =>
      clear HXF H_l HT B
      obtain ⟨k, hk, rfl, hrel⟩ := hrel
      obtain ⟨hq_HXF, hq_H_l, hq_HT, hq_B⟩ := hrel
      have HXF := Lib.hid hq_HXF
      have H_l := Lib.hid hq_H_l
      have HT := Lib.hid hq_HT
      have B := Lib.hid hq_B
      clear hq_HXF hq_H_l hq_HT hq_B
      have k0 : (0 : Int) ≤ (k : Int) := by omega
      have k6 : (k : Int) ≤ 6 := by omega
      have l_4 : wr.cell? ⟨gl, 4, none⟩ = some (.int .i64 (n : Int)) := by rw [row_cell H_l.out]; rfl
      have l_z := lt_of_heap H_l.out
      by_cases hkn : k < n
      ·skip
       have hkI : (k : Int) < (n : Int) := by omega
       obtain ⟨bt, Hbt⟩ : ∃ x : Int, Hid (yh / 2 ^ k % 2 = x ∧ 0 ≤ x ∧ x ≤ 1) := ⟨_, Lib.hid ⟨rfl, by omega, by omega⟩⟩
       have hbit : bits .and .u8 (yh / 2 ^ k) 1 = bt := by rw [has_bits h0 h1]; exact Hbt.out.1
       obtain ⟨_, bt0, bt1⟩ := Hbt.out
       have hbw1 : IntKind.u64.wrap bt = bt := by rw [IntKind.wrap_u64]; omega
       have hbw2 : IntKind.u64.wrap (bt * 7) = bt * 7 := by rw [IntKind.wrap_u64]; omega
       have hkw : IntKind.i64.wrap (8 * (k : Int)) = 8 * (k : Int) := IntWalk.i64_in _ (by omega)
       have haw : IntKind.i64.wrap (8 * (16 + (u : Int)) + 16) = 8 * (16 + (u : Int)) + 16 := IntWalk.i64_in _ (by omega)
       have hxw : IntKind.i64.wrap (8 * (16 + (u : Int)) + 16 + 8 * (k : Int)) = 8 * (16 + (u : Int)) + 16 + 8 * (k : Int) := IntWalk.i64_in _ (by omega)
       have HPt : Hid (∀ w1, RArn w1 q d (oLW c (obs ++ [obK ⟨ys, yh, yt, yd⟩ k])) → Calls Tryz.prog 37 #[.pointer (some ⟨q, 0, none⟩), .int .i64 (8 * (16 + (u : Int)) + 16 + 8 * (k : Int)), .int .u64 (bt * 7)] w1 fun r w' => r = .returned (.int .i64 0) ∧ RArn w' q d (oLW c (obs ++ [obK ⟨ys, yh, yt, yd⟩ (k + 1)])) ∧ Keep [d] w1 w') := Lib.hid (fun w1 ha => by
        obtain ⟨⟨z9, hz9⟩, hs9⟩ := oLW_slot c obs ⟨ys, yh, yt, yd⟩ k (by rw [Hn.out.1]; exact hkn)
        have e9 : hasB yh k = bt * 7 := by unfold hasB; rw [Hbt.out.1]; omega
        have hs9 : (oLW c (obs ++ [obK ⟨ys, yh, yt, yd⟩ k])).set (16 + used obs + (2 + k)) (bt * 7) = oLW c (obs ++ [obK ⟨ys, yh, yt, yd⟩ (k + 1)]) := by rw [← e9]; exact hs9
        rw [Hu.out] at hz9 hs9
        have h9 := rarnPut_any q d _ (16 + u + (2 + k)) z9 (bt * 7) (8 * (16 + (u : Int)) + 16 + 8 * (k : Int)) w1 ha hz9 (by omega) (by omega)
        rw [hs9] at h9
        exact h9)
       go_upto_region 22 with fail
       clear l_4 l_z
       refine wp_region_held_drew (S := fun W => W.cell? ⟨X, 5, none⟩ = some (.pointer (some ⟨q, 0, none⟩)) ∧ X < W.heap.size ∧ W.cell? ⟨bl, ol + i * 4 + 1, none⟩ = some (.int .u8 yh) ∧ bl < W.heap.size) (by kernel_rfl) (show wr.drew.cell? _ = _ ∧ X < wr.drew.heap.size ∧ wr.drew.cell? _ = _ ∧ bl < wr.drew.heap.size from ⟨HT.out.x.cell, HT.out.lt X (by simp), ⟨(Below.cell (below_only B.out (Below.drew (Below.refl wr.heap.size wr))) HJ.out.2.2.2.2 (p := ⟨bl, ol + i * 4 + 1, none⟩)).trans HJ.out.2.1, Nat.lt_of_lt_of_le HJ.out.2.2.2.2 ((below_only B.out (Below.drew (Below.refl wr.heap.size wr)))).size⟩⟩) ?_
       intro hS
       have HT9 := Lib.hid HT.out.drew
       have HXF9 : Hid (wr.drew.cell? ⟨X, 4, none⟩ = some (.slice fA fn fc)) := Lib.hid HXF.out
       have HB9 : Hid (Below w.heap.size w wr.drew) := Lib.hid (below_only B.out (Below.drew (Below.refl wr.heap.size wr)))
       have Hlr9 : Hid (wr.drew.heap[gl]? = some (.cells (cal18A n tg) 35 (0, 0))) := Lib.hid H_l.out
       generalize wr.drew = y0 at hS HT9 HXF9 HB9 Hlr9 ⊢
       refine tk (i := 0) (v := ?v0x18) (some 99) rfl rfl (Or.inl ⟨by kernel_rfl, ?h0x18⟩) ?r0x18
       case h0x18 => (intro w' hSw; obtain ⟨c5, zx, c1, zb⟩ := hSw; go_simp; first | done | (with_reducible rfl))
       try simp only [zA, zB, zC, zD, zE]
       refine tk (i := 1) (v := ?v1x19) (some 100) rfl rfl (Or.inl ⟨by kernel_rfl, ?h1x19⟩) ?r1x19
       case h1x19 => (intro w' hSw; obtain ⟨c5, zx, c1, zb⟩ := hSw; go_simp; first | done | (with_reducible rfl))
       try simp only [zA, zB, zC, zD, zE]
       refine tk (i := 2) (v := ?v2x20) (some 101) rfl rfl (Or.inl ⟨by kernel_rfl, ?h2x20⟩) ?r2x20
       case h2x20 => (intro w' hSw; obtain ⟨c5, zx, c1, zb⟩ := hSw; go_simp; first | done | (with_reducible rfl))
       try simp only [zA, zB, zC, zD, zE]
       refine tk (i := 3) (v := ?v3x21) (some 102) rfl rfl (Or.inl ⟨by kernel_rfl, ?h3x21⟩) ?r3x21
       case h3x21 => (intro w' hSw; obtain ⟨c5, zx, c1, zb⟩ := hSw; go_simp; first | done | (with_reducible rfl))
       try simp only [zA, zB, zC, zD, zE]
       refine tk (i := 4) (v := ?v4x22) (some 103) rfl rfl (Or.inl ⟨by kernel_rfl, ?h4x22⟩) ?r4x22
       case h4x22 => (intro w' hSw; obtain ⟨c5, zx, c1, zb⟩ := hSw; go_simp; first | done | (with_reducible rfl))
       try simp only [zA, zB, zC, zD, zE]
       refine tk (i := 5) (v := ?v5x23) (some 104) rfl rfl (Or.inl ⟨by kernel_rfl, ?h5x23⟩) ?r5x23
       case h5x23 => (intro w' hSw; obtain ⟨c5, zx, c1, zb⟩ := hSw; go_simp; first | done | (with_reducible rfl))
       try simp only [zA, zB, zC, zD, zE]
       refine tk (i := 6) (v := ?v6x24) (some 105) rfl rfl (Or.inl ⟨by kernel_rfl, ?h6x24⟩) ?r6x24
       case h6x24 => (intro w' hSw; obtain ⟨c5, zx, c1, zb⟩ := hSw; go_simp; first | done | (with_reducible rfl))
       try simp only [zA, zB, zC, zD, zE]
       refine tk (i := 7) (v := ?v7x25) (some 106) rfl rfl (Or.inl ⟨by kernel_rfl, ?h7x25⟩) ?r7x25
       case h7x25 => (intro w' hSw; obtain ⟨c5, zx, c1, zb⟩ := hSw; go_simp; first | done | (with_reducible rfl))
       try simp only [zA, zB, zC, zD, zE]
       refine tk (i := 8) (v := ?v8x26) (some 107) rfl rfl (Or.inl ⟨by kernel_rfl, ?h8x26⟩) ?r8x26
       case h8x26 => (intro w' hSw; obtain ⟨c5, zx, c1, zb⟩ := hSw; go_simp; first | done | (with_reducible rfl))
       try simp only [zA, zB, zC, zD, zE]
       refine tk (i := 9) (v := ?v9x27) (some 108) rfl rfl (Or.inl ⟨by kernel_rfl, ?h9x27⟩) ?r9x27
       case h9x27 => (intro w' hSw; obtain ⟨c5, zx, c1, zb⟩ := hSw; go_simp; first | done | (with_reducible rfl))
       try simp only [zA, zB, zC, zD, zE]
       refine tk (i := 10) (v := ?v10x28) (some 109) rfl rfl (Or.inl ⟨by kernel_rfl, ?h10x28⟩) ?r10x28
       case h10x28 => (intro w' hSw; obtain ⟨c5, zx, c1, zb⟩ := hSw; go_simp; first | done | (with_reducible rfl))
       try simp only [zA, zB, zC, zD, zE]
       refine tk (i := 11) (v := ?v11x29) (some 110) rfl rfl (Or.inl ⟨by kernel_rfl, ?h11x29⟩) ?r11x29
       case h11x29 => (intro w' hSw; obtain ⟨c5, zx, c1, zb⟩ := hSw; go_simp; first | done | (with_reducible rfl))
       try simp only [zA, zB, zC, zD, zE]
       refine tk (i := 12) (v := ?v12x30) (some 111) rfl rfl (Or.inl ⟨by kernel_rfl, ?h12x30⟩) ?r12x30
       case h12x30 => (intro w' hSw; obtain ⟨c5, zx, c1, zb⟩ := hSw; go_simp; first | done | (with_reducible rfl))
       try simp only [zA, zB, zC, zD, zE]
       refine tk (i := 13) (v := ?v13x31) (some 112) rfl rfl (Or.inl ⟨by kernel_rfl, ?h13x31⟩) ?r13x31
       case h13x31 => (intro w' hSw; obtain ⟨c5, zx, c1, zb⟩ := hSw; go_simp; first | done | (with_reducible rfl))
       try simp only [zA, zB, zC, zD, zE]
       refine tk (i := 14) (v := ?v14x32) (some 113) rfl rfl (Or.inl ⟨by kernel_rfl, ?h14x32⟩) ?r14x32
       case h14x32 => (intro w' hSw; obtain ⟨c5, zx, c1, zb⟩ := hSw; go_simp; first | done | (with_reducible rfl))
       try simp only [zA, zB, zC, zD, zE]
       refine tk (i := 15) (v := ?v15x33) (some 114) rfl rfl (Or.inl ⟨by kernel_rfl, ?h15x33⟩) ?r15x33
       case h15x33 => (intro w' hSw; obtain ⟨c5, zx, c1, zb⟩ := hSw; go_simp; first | done | (with_reducible rfl))
       try simp only [zA, zB, zC, zD, zE]
       refine tk (i := 16) (v := ?v16x34) (some 115) rfl rfl (Or.inl ⟨by kernel_rfl, ?h16x34⟩) ?r16x34
       case h16x34 => (intro w' hSw; obtain ⟨c5, zx, c1, zb⟩ := hSw; go_simp; first | done | (with_reducible rfl))
       try simp only [zA, zB, zC, zD, zE]
       refine tk (i := 17) (v := ?v17x35) (some 116) rfl rfl (Or.inl ⟨by kernel_rfl, ?h17x35⟩) ?r17x35
       case h17x35 => (intro w' hSw; obtain ⟨c5, zx, c1, zb⟩ := hSw; go_simp; first | done | (with_reducible rfl))
       try simp only [zA, zB, zC, zD, zE]
       refine tk (i := 18) (v := ?v18x36) (some 117) rfl rfl (Or.inl ⟨by kernel_rfl, ?h18x36⟩) ?r18x36
       case h18x36 => (intro w' hSw; obtain ⟨c5, zx, c1, zb⟩ := hSw; go_simp; first | done | (with_reducible rfl))
       try simp only [zA, zB, zC, zD, zE]
       refine wpAnyH_ready (rs := [19]) (by kernel_rfl) (by simp) ?_
       refine AllReadyH.cons rfl (fun K hK => ?_) AllReadyH.nil
       go_simp
       refine (HPt.out _ HT9.out.x.arn).mono ?_
       rintro e' y1 ⟨rfl, hA9, hk9⟩
       have HA9 := Lib.hid hA9
       have HK9 := Lib.hid hk9
       clear hA9 hk9
       go_simp
       refine hK.out _ _ (⟨(HK9.out.cell (p := ⟨X, 5, none⟩) hS.1 (by simpa using HT9.out.x.ne)), Nat.lt_of_lt_of_le hS.2.1 HK9.out.size, HK9.out.cell (p := ⟨bl, ol + i * 4 + 1, none⟩) hS.2.2.1 (by have h8 := HT.out.low; have h9 := HJ.out.2.2.2.2; simp; omega), Nat.lt_of_lt_of_le hS.2.2.2 HK9.out.size⟩) (fun hS => ?_)
       clear hK K
       try simp only [zA, zB, zC, zD, zE]
       refine wpAnyH_done (by kernel_rfl) ?_ _
       clear hS hbit hbw1 hbw2 hkw haw hxw bt0 bt1
       replace HXF := Lib.hid (HK9.out.cell (p := ⟨X, 4, none⟩) HXF9.out (by simpa using HT9.out.x.ne))
       replace H_l := Lib.hid (HK9.out.row Hlr9.out (by simpa using (HT9.out.nb N_l.out).2))
       replace B := Lib.hid (HT9.out.under HB9.out HK9.out (by simp))
       replace HT := Lib.hid (HT9.out.onX (RAll.put HT9.out.x HK9.out HA9.out) HK9.out)
       clear HT9 HXF9 HB9 Hlr9 HA9 HK9
       go_wp2_with fail
       go_roundw
       case rel => exact ⟨k + 1, by omega, by go_num, HXF.out, H_l.out, HT.out, B.out⟩
       case measure => simp [intOf]; omega
      ·skip
       obtain rfl : k = n := by omega
       have hkI : ¬ ((k : Int) < (k : Int)) := by omega
       clear hkn hk
       obtain ⟨c3, z3⟩ : wr.cell? ⟨bl, ol + i * 4 + 3, none⟩ = some (.bool yd) ∧ bl < wr.heap.size := ⟨(Below.cell B.out HJ.out.2.2.2.2 (p := ⟨bl, ol + i * 4 + 3, none⟩)).trans HJ.out.2.2.2.1, Nat.lt_of_lt_of_le HJ.out.2.2.2.2 B.out.size⟩
       obtain ⟨x5, zx⟩ : wr.cell? ⟨X, 5, none⟩ = some (.pointer (some ⟨q, 0, none⟩)) ∧ X < wr.heap.size := ⟨HT.out.x.cell, HT.out.lt X (by simp)⟩
       have HAll := Lib.hid (obK_all ⟨ys, yh, yt, yd⟩)
       rw [Hn.out.1] at HAll
       dsimp only at HAll
       cases yd with
       | true =>
        obtain ⟨hd, hg, hst, hd0, hd1, hd2⟩ := oLW_done c obs ⟨ys, yh, yt, true⟩ rfl k Hn.out.1.symm
        rw [Hu.out] at hg hst
        have Hg9 := Lib.hid hg
        have HWs := Lib.hid hst
        have Hd2 := Lib.hid hd2
        clear hg hst hd2
        have hor : bits .or .u64 hd 281474976710656 = hd + 281474976710656 := u64_setbit hd hd0 (by omega) Hd2.out
        clear HAll
        go_wp2_with fail
        refine (rarnWord_any q d _ (16 + u) hd _ _ HT.out.x.arn Hg9.out (by omega)).mono ?_
        rintro r w9 ⟨rfl, rfl⟩
        go_wp2_with fail
        refine (rarnPut_any q d _ (16 + u) hd (hd + 281474976710656) _ _ HT.out.x.arn Hg9.out (by omega) (by omega)).mono ?_
        rintro r z1 ⟨rfl, hA, hK⟩
        rw [HWs.out] at hA
        have hX := RAll.put HT.out.x hK hA
        replace HXF := Lib.hid (hK.cell (p := ⟨X, 4, none⟩) HXF.out (by simpa using HT.out.x.ne))
        clear c3 z3 x5 zx hA
        have hszK := hK.size
        replace B := Lib.hid (HT.out.under B.out hK (by simp))
        replace HT := Lib.hid (HT.out.onX hX hK)
        clear hX hK hszK
        go_wp2_with fail
        go_roundw
        case rel => exact ⟨i + 1, by omega, by go_num, by rw [Hsc.out]; exact HT.out, HXF.out, B.out⟩
        case measure => simp [intOf]; omega
       | false =>
        have hq : obK ⟨ys, yh, yt, false⟩ k = obOf ⟨ys, yh, yt, false⟩ := HAll.out
        rw [hq] at HT
        go_wp2_with fail
        go_roundw
        case rel => exact ⟨i + 1, by omega, by go_num, by rw [Hsc.out]; exact HT.out, HXF.out, B.out⟩
        case measure => simp [intOf]; omega
  ·skip
   have hsc := obsN_all ls (i := i) (by omega)
   rw [hsc] at HT
   have hU := obsOf_used ls
   obtain ⟨obs, Hobs⟩ : ∃ x, Hid (obsOf ls = x) := ⟨_, Lib.hid rfl⟩
   rw [Hobs.out] at HT hU
   have HU := Lib.hid hU
   clear hU hsc
   have hD : decide ((i : Int) < (ls.length : Int)) = false ∨ (decide ((i : Int) < (ls.length : Int)) = true ∧ decide ((i : Int) < 8) = false) := by
    by_cases h9 : (i : Int) < (ls.length : Int)
    ·exact .inr ⟨decide_eq_true h9, decide_eq_false (by omega)⟩
    ·exact .inl (decide_eq_false h9)
   have HF9 : Hid ((oLW c obs)[12]? = some 0 ∧ (oLW c obs).set 12 99 = wsL c (8 * (used obs : Int)) 99 (extE obs) ∧ (oLW c obs).length = 80) := Lib.hid ⟨rfl, rfl, oLW_len HU.out⟩
   obtain ⟨WX, HWX⟩ : ∃ x, Hid (wsL c (8 * (used obs : Int)) 99 (extE obs) = x) := ⟨_, Lib.hid rfl⟩
   have HlX : Hid (WX.length = 80 ∧ WX.length = WA.length) := Lib.hid (by have h9 := HWL.out.1; rw [← HWX.out, wsL_len (extE_len HU.out), h9]; exact ⟨rfl, rfl⟩)
   rw [HWX.out] at HF9
   go_upto_region 10 with fail
   try simp only [Act.put]
   go_cut [61] from 54 to 61 (fun vv wx => vv = .bool false ∧ wr = wx)
   case first =>
    rcases hD with hD | ⟨hD1, hD2⟩
    ·have iLn : ¬ ((i : Int) < (ls.length : Int)) := of_decide_eq_false hD
     go_wp2_with fail
     go_meet
     exact ⟨rfl, rfl⟩
    ·have i8n : ¬ ((i : Int) < 8) := of_decide_eq_false hD2
     have iLn : (i : Int) < (ls.length : Int) := of_decide_eq_true hD1
     go_wp2_with fail
     go_meet
     exact ⟨rfl, rfl⟩
   case rest =>
    obtain ⟨rfl, hwx⟩ := hcut
    subst hwx
    clear hD
    go_wp2_with fail
    refine (rallPut_any X q d 2 4 0 512 _ 12 0 99 4 1 _ HT.out.x HF9.out.1 (by decide) (by decide) (by decide) (by decide)).mono ?_
    rintro r z1 ⟨rfl, hX, hK⟩
    rw [HF9.out.2.1] at hX
    replace HXF := Lib.hid (hK.cell (p := ⟨X, 4, none⟩) HXF.out (by simpa using HT.out.x.ne))
    have hszK := hK.size
    replace B := Lib.hid (HT.out.under B.out hK (by simp))
    replace HT := Lib.hid (HT.out.onX hX hK)
    clear hX hK hszK
    have h0 : Hid (mixL WX WA 0 = WA) := Lib.hid (mixL_zero _ _)
    rw [← h0.out] at HT
    clear h0
    go_wp2_with fail
    go_loopw [21] (fun tt wz => ∃ n : Nat, n ≤ 80 ∧ tt = .int .i64 n ∧ TwoW w.heap.size wz p b X q d 2 4 0 512 (mixL WX WA n) WX ∧ wz.cell? ⟨X, 4, none⟩ = some (.slice fA fn fc) ∧ Below w.heap.size w wz) (fun t _ => (80 - intOf t).toNat)
    case atStart => exact ⟨0, by omega, rfl, HT.out, HXF.out, B.out⟩
    case round =>
     clear HT HXF B
     obtain ⟨n, hn, rfl, hT, hxf, hB⟩ := hrel
     have HT := Lib.hid hT
     have HXF := Lib.hid hxf
     have B := Lib.hid hB
     clear hT hxf hB
     have X_5 := HT.out.x.cell
     have zX := HT.out.lt X (by simp)
     have zq := HT.out.lt q (by simp)
     have zd := HT.out.lt d (by simp)
     obtain ⟨q_0, _⟩ := box1 HT.out.x.arn.box
     rw [HlX.out.1] at q_0
     by_cases hn4 : n < 80
     ·skip
      obtain ⟨e, he⟩ : ∃ x, WX[n]? = some x := ⟨_, List.getElem?_eq_getElem (by rw [HlX.out.1]; exact hn4)⟩
      obtain ⟨f, hf⟩ : ∃ x, (mixL WX WA n)[n]? = some x := ⟨_, List.getElem?_eq_getElem (by rw [mixL_len HlX.out.2 (by rw [HlX.out.1]; exact hn), HlX.out.1]; exact hn4)⟩
      have cd := HT.out.x.arn.cell n e he
      have He := Lib.hid he
      have he0 : Hid (0 ≤ e ∧ e < 18446744073709551616) := Lib.hid (HT.out.x.arn.ok e (List.mem_of_getElem? he))
      have HPt : Hid (Calls Tryz.prog 40 #[.pointer (some ⟨p, 0, none⟩), .int .i64 (8 * (n : Int)), .int .u64 e] wr fun r w' => r = .returned (.int .i64 0) ∧ Arn w' p b ((mixL WX WA n).set n e) ∧ Keep [b] wr w') := Lib.hid (by
       have h9 := arnPut_any p b (mixL WX WA n) n f e wr HT.out.a hf he0.out
       rwa [show ((n * 8 : Nat) : Int) = 8 * (n : Int) by omega] at h9)
      have hnI : (n : Int) < 80 := by omega
      have hnI0 : (0 : Int) ≤ (n : Int) := by omega
      have h8n : IntKind.i64.wrap (8 * (n : Int)) = 8 * (n : Int) := IntWalk.i64_in _ (by omega)
      clear he hf
      go_wp2_with fail
      clear X_5 q_0 cd zX zq zd
      refine HPt.out.mono ?_
      rintro r y1 ⟨rfl, hA, hK⟩
      rw [mixL_set HlX.out.2 He.out] at hA
      clear HPt
      replace HXF := Lib.hid (hK.cell (p := ⟨X, 4, none⟩) HXF.out (by simpa using HT.out.ne.1))
      have hszK := hK.size
      replace B := Lib.hid (HT.out.under B.out hK (by simp))
      replace HT := Lib.hid (HT.out.onA hA hK)
      clear hA hK hszK
      go_wp2_with fail
      go_roundw
      case rel => exact ⟨n + 1, by omega, by go_num, HT.out, HXF.out, B.out⟩
      case measure => simp [intOf]; omega
     ·skip
      have h80 : n = 80 := by omega
      have hal := mixL_all HlX.out.2
      rw [HlX.out.1] at hal
      rw [h80, hal] at HT
      have hnI : ¬ ((n : Int) < 80) := by omega
      clear hn4 hn h80 hal
      go_wp2_with fail
      clear X_5 q_0 zX zq zd
      go_ret2
      refine ⟨p, b, X, rfl, ⟨q, d, ?_⟩, HXF.out, B.out⟩
      rw [Hc.out, Hobs.out, HWX.out]
      exact HT.out
end Go.Proofs.YtbijaloeilnjoaaGreat

namespace Go.Proofs.YtbijaloeilnjoaaGreat
open Go.RowKit
set_option linter.unusedVariables false
set_option linter.unusedSimpArgs false


/-- an exit of the scope 1 -/
def call0 (ch : Sl) : Rn := ⟨⟨5, 0, 0, 0, 0, 0, 0⟩, 15, 1, 0, 0, ch, 0, 0, 0, 0, noS, 0, noS, 0, false, false, false, 0, 0, noS⟩
theorem cal18c : CalOk ⟨5, 0, 0, 0, 0, 0, 0⟩ := ⟨by simp, by simp, by simp, by simp, ⟨by simp, by simp⟩, by simp, by simp⟩
theorem beg18c (ch : Sl) : rbeginRn 2 [(1, true)] ⟨5, 0, 0, 0, 0, 0, 0⟩ (rregR 0 0 0 0 0) (rregR 0 0 0 0 0) ch = call0 ch := rfl
set_option maxRecDepth 100000 in
set_option maxHeartbeats 8000000 in
theorem call18_any (w : World) :
  Calls Tryz.prog 14 #[] w fun r w' => ∃ cA kc, r = .returned (call0 ⟨cA, 1, kc⟩).v ∧ Ents w' cA [(1, true)] ∧ (∀ a, cA = some a → w.heap.size ≤ a.block) ∧ Below w.heap.size w w' := by
 go_enter Tryz.func14, Tryz.ntmps14
 go_upto_region 1 with fail
 refine one_row w _ _ ?_
 intro w1 hr hb
 have HR := Lib.hid hr
 have HB := Lib.hid hb
 have HS := Lib.hid (lt_of_heap hr)
 clear hr hb
 go_wp2_with fail
 refine (plan18_any _).mono ?_
 rintro r w2 ⟨rfl, hb⟩
 replace HR := Lib.hid (row_below HR.out hb)
 replace HB := Lib.hid (below_only HB.out hb)
 replace HS := Lib.hid (Nat.lt_of_lt_of_le HS.out hb.size)
 clear hb
 go_wp2_with fail
 have hr4 : ((w2.alloc (.cells #[.int .u64 0, .int .u64 0, .int .u64 0, .int .u64 0] 36)).alloc (.cells #[.int .i64 1, .bool true] 97)).heap[w2.heap.size]? = some (.cells #[.int .u64 0, .int .u64 0, .int .u64 0, .int .u64 0] 36 (0, 0)) := row_alloc (row_new _ _ _)
 have hr2 : ((w2.alloc (.cells #[.int .u64 0, .int .u64 0, .int .u64 0, .int .u64 0] 36)).alloc (.cells #[.int .i64 1, .bool true] 97)).heap[w2.heap.size + 1]? = some (.cells #[.int .i64 1, .bool true] 97 (0, 0)) := row_at (by simp)
 obtain ⟨k0, k1, k2, k3, _⟩ := box4 hr4
 have hba : Below w2.heap.size w2 ((w2.alloc (.cells #[.int .u64 0, .int .u64 0, .int .u64 0, .int .u64 0] 36)).alloc (.cells #[.int .i64 1, .bool true] 97)) := by go_grown
 have hen : Ents ((w2.alloc (.cells #[.int .u64 0, .int .u64 0, .int .u64 0, .int .u64 0] 36)).alloc (.cells #[.int .i64 1, .bool true] 97)) (some ⟨w2.heap.size + 1, 0, none⟩) [(1, true)] := fun _ => ⟨_, 0, rfl, fun j v hv => by
  rw [Nat.zero_add, row_cell hr2]
  rcases j with _ | _ | j <;> first | (simp [entCells] at hv; done) | (simp [entCells] at hv ⊢; exact hv)⟩
 refine (rof_any ⟨2, 4, 0, 512⟩ (some ⟨w2.heap.size + 1, 0, none⟩) 1 [(1, true)] ⟨5, 0, 0, 0, 0, 0, 0⟩ 0 0 0 0 w2.heap.size 0 4 _ (by simp) (by simp) hen (by simp) (by simp) cal18c (by simp) (by simp) (by simp) (by simp) (by simp) k0 k1 k2 k3 (.inr rfl)).mono ?_
 rintro r w3 ⟨kc, cA, rfl, hcs, hnew, hb⟩
 rw [beg18c]
 have hb' := below_only hba hb
 replace HR := Lib.hid (row_below HR.out hb')
 have hsz := hba.size
 have HN : Hid (∀ a, cA = some a → w.heap.size + 1 < a.block) := Lib.hid (fun a ha => by have h9 := hnew a (by simp) ha; have h8 := HB.out.size; simp at h9; have h7 := HS.out; omega)
 replace HB := Lib.hid (below_only HB.out hb')
 have HC := Lib.hid hcs
 clear hb hb' hba hr4 hr2 k0 k1 k2 k3 hen hcs hnew hsz
 obtain ⟨r0, Hr0⟩ : ∃ x : Rn, Hid (x = call0 ⟨cA, 1, kc⟩) := ⟨_, Lib.hid rfl⟩
 have Hr0' : Hid ((⟨cA, ([(1, true)] : List Ent).length, kc⟩ : Sl) = ⟨cA, 1, kc⟩) := Lib.hid rfl
 rw [Hr0'.out, ← Hr0.out]
 clear Hr0'
 go_wp2_with (first | (refine wpList_store_row rfl 43 (.tmp 0) (.tmp 6) rfl w.heap.size r0.arr rfl rfl 43 ZRun HR.out infoRun rfl (Rn.one _) ?_))
 refine bodyPost_ret (results_cell_row (fn := Tryz.f14) rfl _ _ w.heap.size 43 r0.arr (0, 0) _ rfl (setRow_heap w3 _ _ _ _ (0, 0) HR.out) undRun rfl infoRun) rfl ?_
 have hks := (Keep.refl [w.heap.size] w3).setRow (g := w.heap.size) (.inl (by simp)) r0.arr
 exact ⟨cA, kc, by rw [Hr0.out], ents_kept HC.out hks (fun z h0 hz => by have := HN.out z hz; simp; omega), fun a ha => by have := HN.out a ha; omega, Keep.under HB.out hks (by have := HB.out.size; omega) (by simp)⟩
end Go.Proofs.YtbijaloeilnjoaaGreat
