/- Layer 18: the walk of leaver's fin. (Printed by gen_lvn.py.) -/
import Derived.Test.YtbijaloeilnjoaaGreatLvH
import Derived.Test.YtbijaloeilnjoaaGreatLvS
import Derived.Test.YtbijaloeilnjoaaGreatLvV
namespace Go.Proofs.YtbijaloeilnjoaaGreat
open Go.RowKit
set_option linter.unusedVariables false
set_option linter.unusedSimpArgs false

/-- words put one behind the other -/
def putW (ws : List Int) : Nat → List Int → List Int
 | _, [] => ws
 | k, x :: l => putW (ws.set k x) (k + 1) l
theorem putW_len (l : List Int) : ∀ (ws : List Int) (k : Nat), (putW ws k l).length = ws.length := by
 induction l with
 | nil => intro ws k; rfl
 | cons x l ih => intro ws k; unfold putW; rw [ih, List.length_set]
theorem putW_snoc (l : List Int) (x : Int) : ∀ (ws : List Int) (k : Nat), putW ws k (l ++ [x]) = (putW ws k l).set (k + l.length) x := by
 induction l with
 | nil => intro ws k; rfl
 | cons y l ih =>
  intro ws k
  rw [List.cons_append]
  unfold putW
  rw [ih]
  congr 1
  simp; omega
theorem putW_next (ws : List Int) (k i : Nat) (l : List Int) (x : Int) (h : l[i]? = some x) : putW ws k (l.take (i + 1)) = (putW ws k (l.take i)).set (k + i) x := by
 obtain ⟨hi, e⟩ := List.getElem?_eq_some_iff.1 h
 rw [List.take_add_one, h]
 simp only [Option.toList_some]
 rw [putW_snoc, List.length_take, Nat.min_eq_left (by omega)]
/-- a row of n cells, of which i were set -/
def fillA (f : Nat → Value) (z : Value) (n i : Nat) : Array Value := ((List.range n).map fun j => if j < i then f j else z).toArray
theorem fillA_0 (f : Nat → Value) (z : Value) (n : Nat)   : madeCells #[z] n = fillA f z n 0 := by
 apply Array.ext'
 apply List.ext_getElem?
 intro j
 simp only [madeCells, fillA]
 by_cases h : j < n
 ·simp [h, Nat.mod_one]
 ·simp [h]
theorem fillA_get (f : Nat → Value) (z : Value) (n i j : Nat) (hj : j < n) : (fillA f z n i)[j]? = some (if j < i then f j else z) := by
 simp [fillA, hj]
theorem fillA_set (f : Nat → Value) (z : Value) (n i : Nat) (hi : i < n) : (fillA f z n i).setIfInBounds i (f i) = fillA f z n (i + 1) := by
 apply Array.ext'
 apply List.ext_getElem?
 intro j
 simp only [fillA, List.setIfInBounds_toArray, List.getElem?_set, List.length_map, List.length_range, List.getElem?_map]
 by_cases h : i = j
 ·subst h
  simp [hi]
 ·rw [if_neg h]
  by_cases hj : j < n
  ·simp only [List.getElem?_range hj, Option.map_some]
   by_cases h1 : j < i
   ·rw [if_pos h1, if_pos (by omega)]
   ·rw [if_neg h1, if_neg (by omega)]
  ·rw [List.getElem?_eq_none (by simp; omega)]; rfl
abbrev pF (pl : Int) (j : Nat) : Value := .int .i64 (pl + 16 + 8 * (j : Int))
abbrev sF (sls : List Int) (j : Nat) : Value := .int .u64 (sls.getD j 0)
theorem fillA_u (sls : List Int) : (fillA (sF sls) (.int .u64 0) sls.length sls.length).toList = sls.flatMap uCells := by
 apply List.ext_getElem?
 intro j
 simp only [fillA, List.getElem?_map]
 have f1 := flat_get uCells 1 (fun _ => rfl) sls j 0 (by omega)
 rw [Nat.mul_one, Nat.add_zero] at f1
 rw [f1]
 by_cases hj : j < sls.length
 ·simp [List.getElem?_range hj, hj]
 ·rw [List.getElem?_eq_none (by simp; omega), List.getElem?_eq_none (by omega)]; rfl
set_option maxRecDepth 100000 in
set_option maxHeartbeats 16000000 in
theorem lvFinC_any (g p : Nat) (s t i h : Int) (fA : Option Addr) (fn fc : Nat) (b : Nat) (ws : List Int) (k m kop : Nat) (sz : Int) (tN : Nat) (dn : Bool) (sc ep pl : Int) (Ls sls Ss : List Int) (fl : List FSl) (x : FSl) (o : Fo) (OUT SAY : List Int) (HLD : Bool) (nn : Nat) (HH : HeadOk sz (sls.length : Int) (tN : Int) sc ep) (r : Rn) (w : World) (H : PlanOk s t i h) (hT : Lvr w g p s t i h fA fn fc r) (hA : Arn w p b ws) (hgb : g ≠ b) (hgp : g ≠ p) (hO9 : finW o sls = OUT) (hS9 : finS o = SAY) (hH9 : finH o = HLD) (hN9 : finN o kop sls = nn) (h1 : ws[k]? = some (head1d sz (sls.length : Int) (tN : Int) dn)) (h2 : ws[k + 1]? = some (head2 sc ep)) (ha : pl = 8 * (k : Int)) (hws : ∀ j y, sls[j]? = some y → ws[k + 2 + j]? = some y) (hout : ∀ y ∈ OUT, 0 ≤ y ∧ y < 18446744073709551616) (hpl : Ls[m]? = some pl) (hLs : Ls.length = m + 1) (hln : r.list.n = m + 1) (hlcp : r.list.n ≤ r.list.c) (hl8 : m ≤ 64) (hlc : Cells w r.list.a (Ls.flatMap nCells)) (hfn : fn = fl.length) (hf8 : fl.length ≤ 8) (hF : FinsAt w fA fl) (hx : finOf fl tN = x) (hop : r.op = (kop : Int)) (ho : x.l[kop]? = some o) (hx8 : x.l.length ≤ 8) (ok : FoOk o) (hsn : r.said.n = Ss.length) (hs8 : Ss.length ≤ 256) (hsc : Cells w r.said.a (Ss.flatMap nCells)) (hgw : g < w.heap.size) (hsb : ∀ z, r.said.a = some z → z.block ≠ b) :
  Calls Tryz.prog 91 #[.pointer (some ⟨g, 0, none⟩)] w fun e w' => e = .returned (.tuple #[]) ∧ ∃ s2 : Sl, Lvr w' g p s t i h fA fn fc { r with op := (nn : Int), said := s2, held := r.held || HLD, pc := if x.l.length ≤ nn then 21 else r.pc } ∧ s2.n = Ss.length + (SAY).length ∧ s2.n ≤ s2.c ∧ Cells w' s2.a ((Ss ++ SAY).flatMap nCells) ∧ (∀ z, s2.a = some z → w.heap.size ≤ z.block) ∧ Arn w' p b (putW ws (k + 2) OUT) ∧ Keep [g, b] w w' := by
 subst hfn
 have HP0 := Lib.hid H
 have HT := Lib.hid hT
 have HA := Lib.hid hA
 have Hgb := Lib.hid hgb
 have Hgp : Hid (g ≠ b ∧ g ≠ p) := Lib.hid ⟨hgb, hgp⟩
 have HK : Hid (Keep [g, b] w w) := Lib.hid (Keep.refl _ _)
 have HAt := fun w' (hq : Arn w' p b ws) => Lib.hid (thingAtD_any p b ws k pl sz (sls.length : Int) (tN : Int) dn sc ep w' hq HH h1 h2 ha)
 have HSlot := fun (i : Nat) (hi : (i : Int) < (sls.length : Int)) w' (hq : Arn w' p b ws) => Lib.hid (thingSlot_any p b ws k pl sz (sls.length : Int) (tN : Int) dn sc ep w' hq HH h1 h2 ha i hi)
 have HW := fun (i : Nat) (y : Int) (hy : sls[i]? = some y) w' (hq : Arn w' p b ws) => Lib.hid (show Calls Tryz.prog 23 #[.pointer (some ⟨p, 0, none⟩), .int .i64 (pl + 16 + 8 * (i : Int))] w' fun r w'' => r = .returned (.tuple #[.int .u64 y, .int .i64 0]) ∧ w'' = w' from by
  have h := arnWord_any p b ws (k + 2 + i) y w' hq (hws i _ hy)
  rw [show (((k + 2 + i) * 8 : Nat) : Int) = pl + 16 + 8 * (i : Int) from by omega] at h
  exact h)
 have hkw : k + 2 + sls.length ≤ ws.length := by
  by_cases h0 : sls.length = 0
  ·have := (List.getElem?_eq_some_iff.1 h2).1; omega
  ·have h := hws (sls.length - 1) (sls[sls.length - 1]'(by omega)) (by simp)
   have := (List.getElem?_eq_some_iff.1 h).1
   omega
 have hlo : OUT.length = sls.length := by rw [← hO9]; exact finW_len o sls
 obtain ⟨WS, HWS⟩ : ∃ W : Nat → List Int, Hid (∀ i, W i = putW ws (k + 2) (OUT.take i)) := ⟨fun i => putW ws (k + 2) (OUT.take i), Lib.hid fun i => rfl⟩
 have HPut := fun i y (hy : OUT[i]? = some y) w' (hq : Arn w' p b (WS i)) => Lib.hid (show Calls Tryz.prog 40 #[.pointer (some ⟨p, 0, none⟩), .int .i64 (pl + 16 + 8 * (i : Int)), .int .u64 y] w' fun r w'' => r = .returned (.int .i64 0) ∧ Arn w'' p b (WS (i + 1)) ∧ Keep [b] w' w'' from by
  have hi := (List.getElem?_eq_some_iff.1 hy).1
  rw [HWS.out] at hq
  rw [HWS.out]
  have h := arnPut_any p b (putW ws (k + 2) (OUT.take i)) (k + 2 + i) ((putW ws (k + 2) (OUT.take i))[k + 2 + i]'(by rw [putW_len]; omega)) y w' hq (List.getElem?_eq_getElem _) (hout y (List.mem_of_getElem? hy))
  rw [show (((k + 2 + i) * 8 : Nat) : Int) = pl + 16 + 8 * (i : Int) from by omega, ← putW_next _ _ _ _ _ hy] at h
  exact h)
 have HOf := fun w' (hq : FinsAt w' fA fl) => Lib.hid (by have h := finOf_any fA fc fl tN w' hq hf8 (by have := HH.htg; omega); rw [hx] at h; exact h)
 have HStep := fun gS w' (hq : FinsAt w' fA fl) (hs : Cells w' (some ⟨gS, 0, none⟩) (sls.flatMap uCells)) => Lib.hid (by have h := finStep_any x.a x.c x.l kop (some ⟨gS, 0, none⟩) sls.length sls w' o (by have := hq.of tN; rw [hx] at this; exact this) hx8 ho ok hs (by have := HH.hsl; omega); rw [hO9, hS9, hH9, hN9] at h; exact h)
 have HSay := Lib.hid (show SAY.length ≤ 8 from by rw [← hS9]; unfold finS; split <;> simp)
 have HnI : Hid (sls.length ≤ 6 ∧ (sls.length : Int) ≤ 6) := Lib.hid (by have := HH.hsl; omega)
 obtain ⟨bL, oL, hLa, hbL, hLc⟩ := n_at hlc (by omega)
 have q0 := hLc m pl hpl
 have Hq0 : Hid (w.cell? ⟨bL, oL + m, none⟩ = some (.int .i64 pl) ∧ bL < w.heap.size) := Lib.hid ⟨q0, hbL⟩
 obtain ⟨lc, hlist⟩ : ∃ c, r.list = ⟨some ⟨bL, oL, none⟩, m + 1, c⟩ := ⟨r.list.c, by rw [← hLa, ← hln]⟩
 have Hlist := Lib.hid hlist
 have Hgw := Lib.hid hgw
 have mI : (m : Int) ≤ 64 := by omega
 have mI0 : (0 : Int) ≤ (m : Int) := by omega
 have mlt : (m : Int) < (m : Int) + 1 := by omega
 have hwm : IntKind.i64.wrap (m : Int) = (m : Int) := IntWalk.i64_in _ (by omega)
 have HF := Lib.hid hF
 have Hop := Lib.hid hop
 have Hsn := Lib.hid hsn
 have Hs8 := Lib.hid hs8
 have HSs := Lib.hid hsc
 have HSb := Lib.hid hsb
 have Hkw := Lib.hid hkw
 have Hlo := Lib.hid hlo
 have Hx8 := Lib.hid hx8
 have pl0 : 0 ≤ pl := by omega
 have pl1 : pl ≤ 65536 := by have := hA.small; omega
 have n0 : (0 : Int) ≤ (sls.length : Int) := by omega
 have n6 : (sls.length : Int) ≤ 6 := HnI.out.2
 have n6N : sls.length ≤ 6 := HnI.out.1
 obtain ⟨i0, hi0, hz0, hz1, hz2⟩ := info_parts infoInt
 obtain ⟨u0, hu0, hv0, hv1, hv2⟩ := info_parts infoU64
 obtain ⟨hh, Hhh⟩ : ∃ y, Hid (r.held = y) := ⟨_, Lib.hid rfl⟩
 have HbW : Hid (b < w.heap.size) := Lib.hid (lt_of_heap hA.row)
 clear hO9 hS9 hH9 hN9 h1 h2 ha hws hout hpl hLs hln hlcp hl8 hlc hf8 hF hx hop ho hx8 ok hsn hs8 hsc hsb hgw HH hLa hbL hLc q0 hlist hkw hlo
 clear H hT hA hgb hgp
 go_enter Tryz.func91, Tryz.ntmps91
 go_wp2_with fail
 refine wp_region_held_drew (S := fun W => Lvr W g p s t i h fA fl.length fc r ∧ W.cell? ⟨bL, oL + m, none⟩ = some (.int .i64 pl) ∧ bL < W.heap.size) (by kernel_rfl) (show Lvr w.drew g p s t i h fA fl.length fc r ∧ w.drew.cell? _ = _ ∧ bL < w.drew.heap.size from ⟨HT.out, Hq0.out.1, Hq0.out.2⟩) ?_
 intro hS
 have hB0 : Below w.heap.size w w.drew := Below.drew (Below.refl _ _)
 generalize w.drew = y0 at hS hB0 ⊢
 refine tk (i := 0) (v := ?v0x34) (some 15) rfl rfl (Or.inl ⟨by kernel_rfl, ?h0x34⟩) ?r0x34
 case h0x34 => (intro w' hSw; obtain ⟨sA, sB, sC⟩ := hSw; obtain ⟨b0, b1, b2, b3, b4, b5, b13, b14, b18, b19, b20, b21, b22, b23, b24, b25, b26, bf13, bf18, bf19, bf20, bf21, bf22, bf23, bf24, bf25, bf26, bz⟩ := lv_box sA; rw [show r.list.v = .slice (some ⟨bL, oL, none⟩) (m + 1) lc from by rw [Hlist.out]] at b22; go_simp; first | done | (with_reducible rfl))
 try simp only [zA, zB, zC, zD, zE]
 refine tk (i := 1) (v := ?v1x35) (some 16) rfl rfl (Or.inl ⟨by kernel_rfl, ?h1x35⟩) ?r1x35
 case h1x35 => (intro w' hSw; obtain ⟨sA, sB, sC⟩ := hSw; obtain ⟨b0, b1, b2, b3, b4, b5, b13, b14, b18, b19, b20, b21, b22, b23, b24, b25, b26, bf13, bf18, bf19, bf20, bf21, bf22, bf23, bf24, bf25, bf26, bz⟩ := lv_box sA; rw [show r.list.v = .slice (some ⟨bL, oL, none⟩) (m + 1) lc from by rw [Hlist.out]] at b22; go_simp; first | done | (with_reducible rfl))
 try simp only [zA, zB, zC, zD, zE]
 refine tk (i := 2) (v := ?v2x36) (some 17) rfl rfl (Or.inl ⟨by kernel_rfl, ?h2x36⟩) ?r2x36
 case h2x36 => (intro w' hSw; obtain ⟨sA, sB, sC⟩ := hSw; obtain ⟨b0, b1, b2, b3, b4, b5, b13, b14, b18, b19, b20, b21, b22, b23, b24, b25, b26, bf13, bf18, bf19, bf20, bf21, bf22, bf23, bf24, bf25, bf26, bz⟩ := lv_box sA; rw [show r.list.v = .slice (some ⟨bL, oL, none⟩) (m + 1) lc from by rw [Hlist.out]] at b22; go_simp; first | done | (with_reducible rfl))
 try simp only [zA, zB, zC, zD, zE]
 refine tk (i := 3) (v := ?v3x37) (some 18) rfl rfl (Or.inl ⟨by kernel_rfl, ?h3x37⟩) ?r3x37
 case h3x37 => (intro w' hSw; obtain ⟨sA, sB, sC⟩ := hSw; obtain ⟨b0, b1, b2, b3, b4, b5, b13, b14, b18, b19, b20, b21, b22, b23, b24, b25, b26, bf13, bf18, bf19, bf20, bf21, bf22, bf23, bf24, bf25, bf26, bz⟩ := lv_box sA; rw [show r.list.v = .slice (some ⟨bL, oL, none⟩) (m + 1) lc from by rw [Hlist.out]] at b22; go_simp; first | done | (with_reducible rfl))
 try simp only [zA, zB, zC, zD, zE]
 refine tk (i := 4) (v := ?v4x38) (some 19) rfl rfl (Or.inl ⟨by kernel_rfl, ?h4x38⟩) ?r4x38
 case h4x38 => (intro w' hSw; obtain ⟨sA, sB, sC⟩ := hSw; obtain ⟨b0, b1, b2, b3, b4, b5, b13, b14, b18, b19, b20, b21, b22, b23, b24, b25, b26, bf13, bf18, bf19, bf20, bf21, bf22, bf23, bf24, bf25, bf26, bz⟩ := lv_box sA; rw [show r.list.v = .slice (some ⟨bL, oL, none⟩) (m + 1) lc from by rw [Hlist.out]] at b22; go_simp; first | done | (with_reducible rfl))
 try simp only [zA, zB, zC, zD, zE]
 refine tk (i := 5) (v := ?v5x39) (some 20) rfl rfl (Or.inl ⟨by kernel_rfl, ?h5x39⟩) ?r5x39
 case h5x39 => (intro w' hSw; obtain ⟨sA, sB, sC⟩ := hSw; obtain ⟨b0, b1, b2, b3, b4, b5, b13, b14, b18, b19, b20, b21, b22, b23, b24, b25, b26, bf13, bf18, bf19, bf20, bf21, bf22, bf23, bf24, bf25, bf26, bz⟩ := lv_box sA; rw [show r.list.v = .slice (some ⟨bL, oL, none⟩) (m + 1) lc from by rw [Hlist.out]] at b22; go_simp; first | done | (with_reducible rfl))
 try simp only [zA, zB, zC, zD, zE]
 refine tk (i := 6) (v := ?v6x40) (some 21) rfl rfl (Or.inl ⟨by kernel_rfl, ?h6x40⟩) ?r6x40
 case h6x40 => (intro w' hSw; obtain ⟨sA, sB, sC⟩ := hSw; obtain ⟨b0, b1, b2, b3, b4, b5, b13, b14, b18, b19, b20, b21, b22, b23, b24, b25, b26, bf13, bf18, bf19, bf20, bf21, bf22, bf23, bf24, bf25, bf26, bz⟩ := lv_box sA; rw [show r.list.v = .slice (some ⟨bL, oL, none⟩) (m + 1) lc from by rw [Hlist.out]] at b22; go_simp; first | done | (with_reducible rfl))
 try simp only [zA, zB, zC, zD, zE]
 refine tk (i := 7) (v := ?v7x41) (some 22) rfl rfl (Or.inl ⟨by kernel_rfl, ?h7x41⟩) ?r7x41
 case h7x41 => (intro w' hSw; obtain ⟨sA, sB, sC⟩ := hSw; obtain ⟨b0, b1, b2, b3, b4, b5, b13, b14, b18, b19, b20, b21, b22, b23, b24, b25, b26, bf13, bf18, bf19, bf20, bf21, bf22, bf23, bf24, bf25, bf26, bz⟩ := lv_box sA; rw [show r.list.v = .slice (some ⟨bL, oL, none⟩) (m + 1) lc from by rw [Hlist.out]] at b22; go_simp; first | done | (with_reducible rfl))
 try simp only [zA, zB, zC, zD, zE]
 refine tk (i := 8) (v := ?v8x42) (some 23) rfl rfl (Or.inl ⟨by kernel_rfl, ?h8x42⟩) ?r8x42
 case h8x42 => (intro w' hSw; obtain ⟨sA, sB, sC⟩ := hSw; obtain ⟨b0, b1, b2, b3, b4, b5, b13, b14, b18, b19, b20, b21, b22, b23, b24, b25, b26, bf13, bf18, bf19, bf20, bf21, bf22, bf23, bf24, bf25, bf26, bz⟩ := lv_box sA; rw [show r.list.v = .slice (some ⟨bL, oL, none⟩) (m + 1) lc from by rw [Hlist.out]] at b22; go_simp; first | done | (with_reducible rfl))
 try simp only [zA, zB, zC, zD, zE]
 refine tk (i := 9) (v := ?v9x43) (some 24) rfl rfl (Or.inl ⟨by kernel_rfl, ?h9x43⟩) ?r9x43
 case h9x43 => (intro w' hSw; obtain ⟨sA, sB, sC⟩ := hSw; obtain ⟨b0, b1, b2, b3, b4, b5, b13, b14, b18, b19, b20, b21, b22, b23, b24, b25, b26, bf13, bf18, bf19, bf20, bf21, bf22, bf23, bf24, bf25, bf26, bz⟩ := lv_box sA; rw [show r.list.v = .slice (some ⟨bL, oL, none⟩) (m + 1) lc from by rw [Hlist.out]] at b22; go_simp; first | done | (with_reducible rfl))
 try simp only [zA, zB, zC, zD, zE]
 refine tk (i := 10) (v := ?v10x44) (some 25) rfl rfl (Or.inl ⟨by kernel_rfl, ?h10x44⟩) ?r10x44
 case h10x44 => (intro w' hSw; obtain ⟨sA, sB, sC⟩ := hSw; obtain ⟨b0, b1, b2, b3, b4, b5, b13, b14, b18, b19, b20, b21, b22, b23, b24, b25, b26, bf13, bf18, bf19, bf20, bf21, bf22, bf23, bf24, bf25, bf26, bz⟩ := lv_box sA; rw [show r.list.v = .slice (some ⟨bL, oL, none⟩) (m + 1) lc from by rw [Hlist.out]] at b22; go_simp; first | done | (with_reducible rfl))
 try simp only [zA, zB, zC, zD, zE]
 refine tk (i := 11) (v := ?v11x45) (some 26) rfl rfl (Or.inl ⟨by kernel_rfl, ?h11x45⟩) ?r11x45
 case h11x45 => (intro w' hSw; obtain ⟨sA, sB, sC⟩ := hSw; obtain ⟨b0, b1, b2, b3, b4, b5, b13, b14, b18, b19, b20, b21, b22, b23, b24, b25, b26, bf13, bf18, bf19, bf20, bf21, bf22, bf23, bf24, bf25, bf26, bz⟩ := lv_box sA; rw [show r.list.v = .slice (some ⟨bL, oL, none⟩) (m + 1) lc from by rw [Hlist.out]] at b22; go_simp; first | done | (with_reducible rfl))
 try simp only [zA, zB, zC, zD, zE]
 refine tk (i := 12) (v := ?v12x46) (some 27) rfl rfl (Or.inl ⟨by kernel_rfl, ?h12x46⟩) ?r12x46
 case h12x46 => (intro w' hSw; obtain ⟨sA, sB, sC⟩ := hSw; obtain ⟨b0, b1, b2, b3, b4, b5, b13, b14, b18, b19, b20, b21, b22, b23, b24, b25, b26, bf13, bf18, bf19, bf20, bf21, bf22, bf23, bf24, bf25, bf26, bz⟩ := lv_box sA; rw [show r.list.v = .slice (some ⟨bL, oL, none⟩) (m + 1) lc from by rw [Hlist.out]] at b22; go_simp; first | done | (with_reducible rfl))
 try simp only [zA, zB, zC, zD, zE]
 refine tk (i := 13) (v := ?v13x47) (some 28) rfl rfl (Or.inl ⟨by kernel_rfl, ?h13x47⟩) ?r13x47
 case h13x47 => (intro w' hSw; obtain ⟨sA, sB, sC⟩ := hSw; obtain ⟨b0, b1, b2, b3, b4, b5, b13, b14, b18, b19, b20, b21, b22, b23, b24, b25, b26, bf13, bf18, bf19, bf20, bf21, bf22, bf23, bf24, bf25, bf26, bz⟩ := lv_box sA; rw [show r.list.v = .slice (some ⟨bL, oL, none⟩) (m + 1) lc from by rw [Hlist.out]] at b22; go_simp; first | done | (with_reducible rfl))
 try simp only [zA, zB, zC, zD, zE]
 refine tk (i := 14) (v := ?v14x48) (some 2) rfl rfl (Or.inl ⟨by kernel_rfl, ?h14x48⟩) ?r14x48
 case h14x48 => (intro w' hSw; obtain ⟨sA, sB, sC⟩ := hSw; obtain ⟨b0, b1, b2, b3, b4, b5, b13, b14, b18, b19, b20, b21, b22, b23, b24, b25, b26, bf13, bf18, bf19, bf20, bf21, bf22, bf23, bf24, bf25, bf26, bz⟩ := lv_box sA; rw [show r.list.v = .slice (some ⟨bL, oL, none⟩) (m + 1) lc from by rw [Hlist.out]] at b22; go_simp; first | done | (with_reducible rfl))
 try simp only [zA, zB, zC, zD, zE]
 refine wpAnyH_done (by kernel_rfl) ?_ _
 clear hS hwm
 have HB := Lib.hid hB0
 clear hB0
 have v2 : y0.cell? ⟨g, 5, none⟩ = some (.pointer (some ⟨p, 0, none⟩)) := Lvr.lo (row_below HT.out HB.out) 5 _ rfl
 have zg := lt_of_heap (row_below HT.out HB.out)
 go_wp2_with fail
 refine (HAt _ (HA.out.below HB.out)).out.mono ?_
 rintro e1 w1 ⟨rfl, hb⟩
 replace HB := Lib.hid (below_only HB.out hb)
 clear hb v2 zg
 go_upto_region 2 with (first | refine wpList_store_row rfl 148 (.tmp 3) (.tmp 36) rfl w1.heap.size (hdCells sz (sls.length : Int) (tN : Int) dn sc ep) rfl rfl 148 _ (row_new _ _ _) infoHd rfl (hd_one _ _ _ _ _ _) ?_)
 refine alloc_set' w1 _ _ _ ?_
 intro w2 hr hb
 obtain ⟨gH, HgH⟩ : ∃ y, y = w1.heap.size := ⟨_, rfl⟩
 rw [← HgH] at hr ⊢
 have LH : Hid (w.heap.size ≤ gH) := Lib.hid (by rw [HgH]; exact HB.out.size)
 replace HB := Lib.hid (below_only HB.out hb)
 have HHd : Hid (w2.heap[gH]? = some (.cells (hdCells sz (sls.length : Int) (tN : Int) dn sc ep) 148 (0, 0))) := Lib.hid hr
 clear hr hb HgH
 obtain ⟨q0, q1, q2, q3, q4, q5⟩ := box6 HHd.out
 have zh := lt_of_heap HHd.out
 go_upto_region 3 with (refine wpList_make_row _ rfl (.tmp 39) (.tmp 39) 38 rfl 3 i0 (.int .i64 0) 1 8 Tryz.underlying38 hi0 hz0 hz1 hz2 (sls.length : Int) (sls.length : Int) sls.length rfl rfl rfl rfl (by omega) (by omega) ?_; intro _)
 rw [fillA_0 (pF pl)]
 clear q0 q1 q2 q3 q4 q5 zh
 refine one_row w2 _ _ ?_
 intro w3 hr hb
 obtain ⟨gP, HgP⟩ : ∃ y, y = w2.heap.size := ⟨_, rfl⟩
 rw [← HgP] at hr ⊢
 have LP : Hid (w.heap.size ≤ gP ∧ gP ≠ gH) := Lib.hid (by have := lt_of_heap HHd.out; have := HB.out.size; omega)
 replace HB := Lib.hid (below_only HB.out hb)
 replace HHd := Lib.hid (row_below HHd.out hb)
 have HPl : Hid (w3.heap[gP]? = some (.cells (fillA (pF pl) (.int .i64 0) sls.length 0) 3 (0, 0))) := Lib.hid hr
 clear hr hb HgP
 obtain ⟨q0, q1, q2, q3, q4, q5⟩ := box6 HHd.out
 have zh := lt_of_heap HHd.out
 go_upto_region 4 with (refine wpList_make_row _ rfl (.tmp 42) (.tmp 42) 71 rfl 36 u0 (.int .u64 0) 1 8 Tryz.underlying71 hu0 hv0 hv1 hv2 (sls.length : Int) (sls.length : Int) sls.length rfl rfl rfl rfl (by omega) (by omega) ?_; intro _)
 rw [fillA_0 (sF sls)]
 clear q0 q1 q2 q3 q4 q5 zh
 refine one_row w3 _ _ ?_
 intro w4 hr hb
 obtain ⟨gS, HgS⟩ : ∃ y, y = w3.heap.size := ⟨_, rfl⟩
 rw [← HgS] at hr ⊢
 have LS : Hid (w.heap.size ≤ gS ∧ gS ≠ gH ∧ gS ≠ gP) := Lib.hid (by have := lt_of_heap HHd.out; have := lt_of_heap HPl.out; have := HB.out.size; omega)
 replace HB := Lib.hid (below_only HB.out hb)
 replace HHd := Lib.hid (row_below HHd.out hb)
 replace HPl := Lib.hid (row_below HPl.out hb)
 have HSl : Hid (w4.heap[gS]? = some (.cells (fillA (sF sls) (.int .u64 0) sls.length 0) 36 (0, 0))) := Lib.hid hr
 clear hr hb HgS
 go_wp2_with fail
 go_loopw [46] (fun tt wr => ∃ i : Nat, i ≤ sls.length ∧ tt = .int .i64 i ∧ wr.heap[gP]? = some (.cells (fillA (pF pl) (.int .i64 0) sls.length i) 3 (0, 0)) ∧ wr.heap[gS]? = some (.cells (fillA (sF sls) (.int .u64 0) sls.length i) 36 (0, 0)) ∧ wr.heap[gH]? = some (.cells (hdCells sz (sls.length : Int) (tN : Int) dn sc ep) 148 (0, 0)) ∧ Below w.heap.size w wr) (fun t _ => (sls.length - intOf t).toNat)
 case atStart => exact ⟨0, by omega, by first | rfl | simp, HPl.out, HSl.out, HHd.out, HB.out⟩
 case round =>
  obtain ⟨i, hin, rfl, hP, hSl, hH, hb⟩ := hrel
  clear HPl HSl HHd HB
  have HPl := Lib.hid hP
  have HSl := Lib.hid hSl
  have HHd := Lib.hid hH
  have HB := Lib.hid hb
  clear hP hSl hH hb
  have i0I : (0 : Int) ≤ (i : Int) := by omega
  have i6I : (i : Int) ≤ 6 := by omega
  by_cases hi : i < sls.length
  ·as_aux_lemma =>
   have hiI : (i : Int) < (sls.length : Int) := by omega
   obtain ⟨y, hy⟩ : ∃ y, sls[i]? = some y := ⟨_, List.getElem?_eq_getElem hi⟩
   have Hy := Lib.hid hy
   have HsF : Hid (sF sls i = .int .u64 y) := Lib.hid (by simp [sF, hy])
   clear hy
   have e5 : wr.cell? ⟨g, 5, none⟩ = some (.pointer (some ⟨p, 0, none⟩)) := Lvr.lo (row_below HT.out HB.out) 5 _ rfl
   have zg := lt_of_heap (row_below HT.out HB.out)
   go_wp2_with fail
   refine (HSlot i hiI _ (HA.out.below HB.out)).out.mono ?_
   rintro e1 wa ⟨rfl, hb⟩
   replace HB := Lib.hid (below_only HB.out hb)
   replace HPl := Lib.hid (row_below HPl.out hb)
   replace HSl := Lib.hid (row_below HSl.out hb)
   replace HHd := Lib.hid (row_below HHd.out hb)
   clear hb e5 zg
   have cP : wa.cell? ⟨gP, i, none⟩ = some (.int .i64 0) := by rw [row_cell HPl.out, fillA_get _ _ _ _ _ hi, if_neg (Nat.lt_irrefl i)]
   have fP := row_frozen HPl.out i
   have zP := lt_of_heap HPl.out
   go_upto_region 8 with fail
   clear cP fP zP
   refine set_oneR wa gP i (pF pl i) _ _ HPl.out ?_
   intro wb hr hk
   rw [fillA_set _ _ _ _ hi] at hr
   replace HB := Lib.hid (show Below w.heap.size w wb from HB.out.trans (Keep.under (Below.refl _ _) hk HB.out.size (by intro j hj; simp at hj; have := LP.out; omega)))
   replace HSl := Lib.hid (hk.row HSl.out (by simpa using LS.out.2.2))
   replace HHd := Lib.hid (hk.row HHd.out (by simpa using LP.out.2.symm))
   replace HPl := Lib.hid hr
   clear hr hk
   have Hc : Hid (wb.cell? ⟨g, 5, none⟩ = some (.pointer (some ⟨p, 0, none⟩)) ∧ wb.cell? ⟨gP, i, none⟩ = some (.int .i64 (pl + 16 + 8 * (i : Int))) ∧ g < wb.heap.size ∧ gP < wb.heap.size) := Lib.hid ⟨Lvr.lo (row_below HT.out HB.out) 5 _ rfl, by rw [row_cell HPl.out, fillA_get _ _ _ _ _ hi, if_pos (Nat.lt_succ_self i)], lt_of_heap (row_below HT.out HB.out), lt_of_heap HPl.out⟩
   refine wp_region_held_drew (S := fun W => W.cell? ⟨g, 5, none⟩ = some (.pointer (some ⟨p, 0, none⟩)) ∧ W.cell? ⟨gP, i, none⟩ = some (.int .i64 (pl + 16 + 8 * (i : Int))) ∧ g < W.heap.size ∧ gP < W.heap.size) (by kernel_rfl) (show wb.drew.cell? _ = _ ∧ wb.drew.cell? _ = _ ∧ g < wb.drew.heap.size ∧ gP < wb.drew.heap.size from Hc.out) ?_
   intro hS
   have hA0 : Arn wb.drew p b ws := HA.out.below (HB.out.trans (Below.drew (Below.refl _ _)))
   have hS0 : wb.drew.heap[gS]? = some (.cells (fillA (sF sls) (.int .u64 0) sls.length i) 36 (0, 0)) := HSl.out
   have hB0 : Below wb.heap.size wb wb.drew := Below.drew (Below.refl _ _)
   generalize wb.drew = y0 at hS hA0 hS0 hB0 ⊢
   refine tk (i := 0) (v := ?v0x49) (some 63) rfl rfl (Or.inl ⟨by kernel_rfl, ?h0x49⟩) ?r0x49
   case h0x49 => (intro w' hSw; obtain ⟨c0, c1, z0, z1⟩ := hSw; go_simp; first | done | (with_reducible rfl))
   try simp only [zA, zB, zC, zD, zE]
   refine tk (i := 1) (v := ?v1x50) (some 64) rfl rfl (Or.inl ⟨by kernel_rfl, ?h1x50⟩) ?r1x50
   case h1x50 => (intro w' hSw; obtain ⟨c0, c1, z0, z1⟩ := hSw; go_simp; first | done | (with_reducible rfl))
   try simp only [zA, zB, zC, zD, zE]
   refine tk (i := 2) (v := ?v2x51) (some 65) rfl rfl (Or.inl ⟨by kernel_rfl, ?h2x51⟩) ?r2x51
   case h2x51 => (intro w' hSw; obtain ⟨c0, c1, z0, z1⟩ := hSw; go_simp; first | done | (with_reducible rfl))
   try simp only [zA, zB, zC, zD, zE]
   refine tk (i := 3) (v := ?v3x52) (some 66) rfl rfl (Or.inl ⟨by kernel_rfl, ?h3x52⟩) ?r3x52
   case h3x52 => (intro w' hSw; obtain ⟨c0, c1, z0, z1⟩ := hSw; go_simp; first | done | (with_reducible rfl))
   try simp only [zA, zB, zC, zD, zE]
   refine tk (i := 4) (v := ?v4x53) (some 67) rfl rfl (Or.inl ⟨by kernel_rfl, ?h4x53⟩) ?r4x53
   case h4x53 => (intro w' hSw; obtain ⟨c0, c1, z0, z1⟩ := hSw; go_simp; first | done | (with_reducible rfl))
   try simp only [zA, zB, zC, zD, zE]
   refine tk (i := 5) (v := ?v5x54) (some 68) rfl rfl (Or.inl ⟨by kernel_rfl, ?h5x54⟩) ?r5x54
   case h5x54 => (intro w' hSw; obtain ⟨c0, c1, z0, z1⟩ := hSw; go_simp; first | done | (with_reducible rfl))
   try simp only [zA, zB, zC, zD, zE]
   refine tk (i := 6) (v := ?v6x55) (some 69) rfl rfl (Or.inl ⟨by kernel_rfl, ?h6x55⟩) ?r6x55
   case h6x55 => (intro w' hSw; obtain ⟨c0, c1, z0, z1⟩ := hSw; go_simp; first | done | (with_reducible rfl))
   try simp only [zA, zB, zC, zD, zE]
   refine tk (i := 7) (v := ?v7x56) (some 70) rfl rfl (Or.inl ⟨by kernel_rfl, ?h7x56⟩) ?r7x56
   case h7x56 => (intro w' hSw; obtain ⟨c0, c1, z0, z1⟩ := hSw; go_simp; first | done | (with_reducible rfl))
   try simp only [zA, zB, zC, zD, zE]
   refine tk (i := 8) (v := ?v8x57) (some 71) rfl rfl (Or.inl ⟨by kernel_rfl, ?h8x57⟩) ?r8x57
   case h8x57 => (intro w' hSw; obtain ⟨c0, c1, z0, z1⟩ := hSw; go_simp; first | done | (with_reducible rfl))
   try simp only [zA, zB, zC, zD, zE]
   refine tk (i := 9) (v := ?v9x58) (some 72) rfl rfl (Or.inl ⟨by kernel_rfl, ?h9x58⟩) ?r9x58
   case h9x58 => (intro w' hSw; obtain ⟨c0, c1, z0, z1⟩ := hSw; go_simp; first | done | (with_reducible rfl))
   try simp only [zA, zB, zC, zD, zE]
   refine wpAnyH_ready (rs := [10]) (by kernel_rfl) (by simp) ?_
   refine AllReadyH.cons rfl (fun K hK => ?_) AllReadyH.nil
   go_simp
   refine (HW i y Hy.out _ hA0).out.mono ?_
   rintro e' y1 ⟨rfl, e2⟩
   rw [e2]
   clear e2 y1
   go_simp
   refine hK.out _ _ (hS) (fun hS => ?_)
   clear hK K
   try simp only [zA, zB, zC, zD, zE]
   refine tk (i := 11) (v := ?v11x59) (some 62) rfl rfl (Or.inl ⟨by kernel_rfl, ?h11x59⟩) ?r11x59
   case h11x59 => (intro w' hSw; obtain ⟨c0, c1, z0, z1⟩ := hSw; go_simp; first | done | (with_reducible rfl))
   try simp only [zA, zB, zC, zD, zE]
   refine tk (i := 12) (v := ?v12x60) (some 74) rfl rfl (Or.inl ⟨by kernel_rfl, ?h12x60⟩) ?r12x60
   case h12x60 => (intro w' hSw; obtain ⟨c0, c1, z0, z1⟩ := hSw; go_simp; first | done | (with_reducible rfl))
   try simp only [zA, zB, zC, zD, zE]
   refine tk (i := 13) (v := ?v13x61) (some 75) rfl rfl (Or.inl ⟨by kernel_rfl, ?h13x61⟩) ?r13x61
   case h13x61 => (intro w' hSw; obtain ⟨c0, c1, z0, z1⟩ := hSw; go_simp; first | done | (with_reducible rfl))
   try simp only [zA, zB, zC, zD, zE]
   refine tk (i := 14) (v := ?v14x62) (some 76) rfl rfl (Or.inl ⟨by kernel_rfl, ?h14x62⟩) ?r14x62
   case h14x62 => (intro w' hSw; obtain ⟨c0, c1, z0, z1⟩ := hSw; go_simp; first | done | (with_reducible rfl))
   try simp only [zA, zB, zC, zD, zE]
   refine wpAnyH_ready (rs := [15]) (by kernel_rfl) (by simp) ?_
   refine AllReadyH.cons rfl (fun K hK => ?_) AllReadyH.nil
   have cS : y0.cell? ⟨gS, i, none⟩ = some (.int .u64 0) := by rw [row_cell hS0, fillA_get _ _ _ _ _ hi, if_neg (Nat.lt_irrefl i)]
   have fS := row_frozen hS0 i
   have zS := lt_of_heap hS0
   go_simp
   clear cS fS zS
   refine set_oneR (P := K _) y0 gS i (.int .u64 y) _ _ hS0 ?_
   intro yS hr hk
   rw [← HsF.out, fillA_set _ _ _ _ hi] at hr
   refine hK.out _ _ (⟨hk.cell (p := ⟨g, 5, none⟩) hS.1 (by have := LS.out.1; have := Hgw.out; simp; omega), hk.cell (p := ⟨gP, i, none⟩) hS.2.1 (by simpa using LS.out.2.2.symm), Nat.lt_of_lt_of_le hS.2.2.1 hk.size, Nat.lt_of_lt_of_le hS.2.2.2 hk.size⟩) (fun hS => ?_)
   clear hK K
   try simp only [zA, zB, zC, zD, zE]
   refine wpAnyH_done (by kernel_rfl) ?_ _
   clear hS hA0
   have HX := Lib.hid (And.intro hr (And.intro (hk.row (row_below HPl.out hB0) (by simpa using LS.out.2.2.symm)) (And.intro (hk.row (row_below HHd.out hB0) (by simpa using LS.out.2.1.symm)) (show Below w.heap.size w yS from (HB.out.trans (hB0.mono HB.out.size)).trans (Keep.under (Below.refl _ _) hk (Nat.le_trans HB.out.size hB0.size) (by intro j hj; simp at hj; have := LS.out; omega))))))
   clear hr hk hS0 hB0
   go_wp2_with fail
   go_roundw
   case rel => exact ⟨i + 1, by omega, by first | rfl | simp | go_num, HX.out.2.1, HX.out.1, HX.out.2.2.1, HX.out.2.2.2⟩
   case measure => simp [intOf]; omega
  ·obtain rfl : i = sls.length := by omega
   have nlt : ¬ ((sls.length : Int) < (sls.length : Int)) := by omega
   go_wp2_with fail
   refine wp_region_held_drew (S := fun W => Lvr W g p s t i h fA fl.length fc r ∧ W.heap[gH]? = some (.cells (hdCells sz (sls.length : Int) (tN : Int) dn sc ep) 148 (0, 0))) (by kernel_rfl) (show Lvr wr.drew g p s t i h fA fl.length fc r ∧ wr.drew.heap[gH]? = _ from ⟨(show Lvr wr g p s t i h fA fl.length fc r from row_below HT.out HB.out), HHd.out⟩) ?_
   intro hS
   have hF0 : FinsAt wr.drew fA fl := HF.out.below (HB.out.trans (Below.drew (Below.refl _ _)))
   have hB0 : Below wr.heap.size wr wr.drew := Below.drew (Below.refl _ _)
   generalize wr.drew = y0 at hS hF0 hB0 ⊢
   refine tk (i := 0) (v := ?v0x63) (some 78) rfl rfl (Or.inl ⟨by kernel_rfl, ?h0x63⟩) ?r0x63
   case h0x63 => (intro w' hSw; obtain ⟨sA, sB⟩ := hSw; have b9 := lv_box sA; obtain ⟨q0, q1, q2, q3, _⟩ := box6 sB; have zq := lt_of_heap sB; go_simp; first | done | (with_reducible rfl))
   try simp only [zA, zB, zC, zD, zE]
   refine tk (i := 1) (v := ?v1x64) (some 79) rfl rfl (Or.inl ⟨by kernel_rfl, ?h1x64⟩) ?r1x64
   case h1x64 => (intro w' hSw; obtain ⟨sA, sB⟩ := hSw; have b9 := lv_box sA; obtain ⟨q0, q1, q2, q3, _⟩ := box6 sB; have zq := lt_of_heap sB; go_simp; first | done | (with_reducible rfl))
   try simp only [zA, zB, zC, zD, zE]
   refine tk (i := 2) (v := ?v2x65) (some 80) rfl rfl (Or.inl ⟨by kernel_rfl, ?h2x65⟩) ?r2x65
   case h2x65 => (intro w' hSw; obtain ⟨sA, sB⟩ := hSw; have b9 := lv_box sA; obtain ⟨q0, q1, q2, q3, _⟩ := box6 sB; have zq := lt_of_heap sB; go_simp; first | done | (with_reducible rfl))
   try simp only [zA, zB, zC, zD, zE]
   refine tk (i := 3) (v := ?v3x66) (some 81) rfl rfl (Or.inl ⟨by kernel_rfl, ?h3x66⟩) ?r3x66
   case h3x66 => (intro w' hSw; obtain ⟨sA, sB⟩ := hSw; have b9 := lv_box sA; obtain ⟨q0, q1, q2, q3, _⟩ := box6 sB; have zq := lt_of_heap sB; go_simp; first | done | (with_reducible rfl))
   try simp only [zA, zB, zC, zD, zE]
   refine tk (i := 4) (v := ?v4x67) (some 82) rfl rfl (Or.inl ⟨by kernel_rfl, ?h4x67⟩) ?r4x67
   case h4x67 => (intro w' hSw; obtain ⟨sA, sB⟩ := hSw; have b9 := lv_box sA; obtain ⟨q0, q1, q2, q3, _⟩ := box6 sB; have zq := lt_of_heap sB; go_simp; first | done | (with_reducible rfl))
   try simp only [zA, zB, zC, zD, zE]
   refine tk (i := 5) (v := ?v5x68) (some 83) rfl rfl (Or.inl ⟨by kernel_rfl, ?h5x68⟩) ?r5x68
   case h5x68 => (intro w' hSw; obtain ⟨sA, sB⟩ := hSw; have b9 := lv_box sA; obtain ⟨q0, q1, q2, q3, _⟩ := box6 sB; have zq := lt_of_heap sB; go_simp; first | done | (with_reducible rfl))
   try simp only [zA, zB, zC, zD, zE]
   refine wpAnyH_ready (rs := [6]) (by kernel_rfl) (by simp) ?_
   refine AllReadyH.cons rfl (fun K hK => ?_) AllReadyH.nil
   go_simp
   refine (HOf _ hF0).out.mono ?_
   rintro e' y1 ⟨rfl, e2⟩
   rw [e2]
   clear e2 y1
   go_simp
   refine hK.out _ _ (hS) (fun hS => ?_)
   clear hK K
   try simp only [zA, zB, zC, zD, zE]
   refine tk (i := 7) (v := ?v7x69) (some 8) rfl rfl (Or.inl ⟨by kernel_rfl, ?h7x69⟩) ?r7x69
   case h7x69 => (intro w' hSw; obtain ⟨sA, sB⟩ := hSw; have b9 := lv_box sA; obtain ⟨q0, q1, q2, q3, _⟩ := box6 sB; have zq := lt_of_heap sB; go_simp; first | done | (with_reducible rfl))
   try simp only [zA, zB, zC, zD, zE]
   refine wpAnyH_done (by kernel_rfl) ?_ _
   clear hS hF0
   replace HSl := Lib.hid (row_below HSl.out hB0)
   replace HPl := Lib.hid (row_below HPl.out hB0)
   replace HB := Lib.hid (below_only HB.out hB0)
   clear hB0
   have e23 : y0.cell? ⟨g, 23, none⟩ = some (.int .i64 (kop : Int)) := by rw [← Hop.out]; exact Lvr.hi (row_below HT.out HB.out) 23 17 _ rfl rfl
   have zg := lt_of_heap (row_below HT.out HB.out)
   go_wp2_with fail
   refine (HStep gS _ (HF.out.below HB.out) (by have h := cells_of HSl.out; rw [fillA_u] at h; exact h)).out.mono ?_
   rintro e1 w5 ⟨A2, c2, A3, c3, rfl, hO, hT3, hO0, hT0, hb⟩
   replace HPl := Lib.hid (row_below HPl.out hb)
   have HBy := HB.out.size
   replace HB := Lib.hid (below_only HB.out hb)
   have HO := Lib.hid hO
   have HO0 : Hid (∀ z, A2 = some z → w.heap.size ≤ z.block) := Lib.hid (fun z hz => Nat.le_trans HBy (hO0 z hz))
   have HT3 : Hid (Cells w5 A3 (SAY.flatMap nCells) ∧ ∀ z, A3 = some z → w.heap.size ≤ z.block) := Lib.hid ⟨hT3, fun z hz => Nat.le_trans HBy (hT0 z hz)⟩
   clear hb e23 zg HBy hO hT3 hO0 hT0 HSl HHd nlt
   go_wp2_with fail
   have HT5 : Hid (Lvr w5 g p s t i h fA fl.length fc r) := Lib.hid (row_below HT.out HB.out)
   go_loopw [100] (fun tt wr => ∃ i : Nat, i ≤ sls.length ∧ tt = .int .i64 i ∧ Arn wr p b (WS i) ∧ Keep [b] w5 wr) (fun t _ => (sls.length - intOf t).toNat)
   case atStart =>
    refine ⟨0, by omega, by first | rfl | simp, ?_, Keep.refl _ _⟩
    have h0 : WS 0 = ws := by rw [HWS.out, List.take_zero]; rfl
    rw [h0]
    exact HA.out.below HB.out
   case round =>
    obtain ⟨i, hin, rfl, hA2, hk2⟩ := hrel
    have HA2 := Lib.hid hA2
    have HK2 := Lib.hid hk2
    clear hA2 hk2
    have HbP : Hid (gP ≠ b) := Lib.hid (by have := LP.out; have := HbW.out; omega)
    have i0I : (0 : Int) ≤ (i : Int) := by omega
    have i6I : (i : Int) ≤ 6 := by omega
    by_cases hi : i < sls.length
    ·as_aux_lemma =>
     have hiI : (i : Int) < (sls.length : Int) := by omega
     obtain ⟨y, hy⟩ : ∃ y, OUT[i]? = some y := ⟨_, List.getElem?_eq_getElem (by rw [Hlo.out]; exact hi)⟩
     obtain ⟨bO, oO, hAO, hbO, hcO⟩ := u_at HO.out (by rw [Hlo.out]; omega)
     have hbO2 := HO0.out _ hAO
     subst hAO
     have cP : wr.cell? ⟨gP, i, none⟩ = some (.int .i64 (pl + 16 + 8 * (i : Int))) := HK2.out.cell (p := ⟨gP, i, none⟩) (by rw [row_cell HPl.out, fillA_get _ _ _ _ _ hi, if_pos hi]) (by simpa using HbP.out)
     have zP := Nat.lt_of_lt_of_le (lt_of_heap HPl.out) HK2.out.size
     go_wp2_with fail
     have Hc : Hid (wr.cell? ⟨g, 5, none⟩ = some (.pointer (some ⟨p, 0, none⟩)) ∧ wr.cell? ⟨bO, oO + i, none⟩ = some (.int .u64 y) ∧ g < wr.heap.size ∧ bO < wr.heap.size) := Lib.hid ⟨HK2.out.cell (p := ⟨g, 5, none⟩) (Lvr.lo HT5.out 5 _ rfl) (by simpa using Hgb.out), HK2.out.cell (p := ⟨bO, oO + i, none⟩) (hcO i y hy) (by have := HbW.out; simp; omega), Nat.lt_of_lt_of_le (lt_of_heap HT5.out) HK2.out.size, Nat.lt_of_lt_of_le hbO HK2.out.size⟩
     have Hy := Lib.hid hy
     clear hy hbO hcO hbO2 cP zP
     have hbOb : Hid (bO ≠ b) := Lib.hid (by have h8 : w.heap.size ≤ bO := HO0.out _ rfl; have h9 := HbW.out; omega)
     refine wp_region_held_drew (S := fun W => W.cell? ⟨g, 5, none⟩ = some (.pointer (some ⟨p, 0, none⟩)) ∧ W.cell? ⟨bO, oO + i, none⟩ = some (.int .u64 y) ∧ g < W.heap.size ∧ bO < W.heap.size) (by kernel_rfl) (show wr.drew.cell? _ = _ ∧ wr.drew.cell? _ = _ ∧ g < wr.drew.heap.size ∧ bO < wr.drew.heap.size from Hc.out) ?_
     intro hS
     have hA0 : Arn wr.drew p b (WS i) := HA2.out.drew
     have hK0 : Keep [b] w5 wr.drew := HK2.out.drew
     generalize wr.drew = y0 at hS hA0 hK0 ⊢
     refine tk (i := 0) (v := ?v0x70) (some 105) rfl rfl (Or.inl ⟨by kernel_rfl, ?h0x70⟩) ?r0x70
     case h0x70 => (intro w' hSw; obtain ⟨c0, c1, z0, z1⟩ := hSw; go_simp; first | done | (with_reducible rfl))
     try simp only [zA, zB, zC, zD, zE]
     refine tk (i := 1) (v := ?v1x71) (some 106) rfl rfl (Or.inl ⟨by kernel_rfl, ?h1x71⟩) ?r1x71
     case h1x71 => (intro w' hSw; obtain ⟨c0, c1, z0, z1⟩ := hSw; go_simp; first | done | (with_reducible rfl))
     try simp only [zA, zB, zC, zD, zE]
     refine tk (i := 2) (v := ?v2x72) (some 107) rfl rfl (Or.inl ⟨by kernel_rfl, ?h2x72⟩) ?r2x72
     case h2x72 => (intro w' hSw; obtain ⟨c0, c1, z0, z1⟩ := hSw; go_simp; first | done | (with_reducible rfl))
     try simp only [zA, zB, zC, zD, zE]
     refine tk (i := 3) (v := ?v3x73) (some 108) rfl rfl (Or.inl ⟨by kernel_rfl, ?h3x73⟩) ?r3x73
     case h3x73 => (intro w' hSw; obtain ⟨c0, c1, z0, z1⟩ := hSw; go_simp; first | done | (with_reducible rfl))
     try simp only [zA, zB, zC, zD, zE]
     refine tk (i := 4) (v := ?v4x74) (some 109) rfl rfl (Or.inl ⟨by kernel_rfl, ?h4x74⟩) ?r4x74
     case h4x74 => (intro w' hSw; obtain ⟨c0, c1, z0, z1⟩ := hSw; go_simp; first | done | (with_reducible rfl))
     try simp only [zA, zB, zC, zD, zE]
     refine tk (i := 5) (v := ?v5x75) (some 110) rfl rfl (Or.inl ⟨by kernel_rfl, ?h5x75⟩) ?r5x75
     case h5x75 => (intro w' hSw; obtain ⟨c0, c1, z0, z1⟩ := hSw; go_simp; first | done | (with_reducible rfl))
     try simp only [zA, zB, zC, zD, zE]
     refine tk (i := 6) (v := ?v6x76) (some 111) rfl rfl (Or.inl ⟨by kernel_rfl, ?h6x76⟩) ?r6x76
     case h6x76 => (intro w' hSw; obtain ⟨c0, c1, z0, z1⟩ := hSw; go_simp; first | done | (with_reducible rfl))
     try simp only [zA, zB, zC, zD, zE]
     refine tk (i := 7) (v := ?v7x77) (some 112) rfl rfl (Or.inl ⟨by kernel_rfl, ?h7x77⟩) ?r7x77
     case h7x77 => (intro w' hSw; obtain ⟨c0, c1, z0, z1⟩ := hSw; go_simp; first | done | (with_reducible rfl))
     try simp only [zA, zB, zC, zD, zE]
     refine tk (i := 8) (v := ?v8x78) (some 113) rfl rfl (Or.inl ⟨by kernel_rfl, ?h8x78⟩) ?r8x78
     case h8x78 => (intro w' hSw; obtain ⟨c0, c1, z0, z1⟩ := hSw; go_simp; first | done | (with_reducible rfl))
     try simp only [zA, zB, zC, zD, zE]
     refine wpAnyH_ready (rs := [9]) (by kernel_rfl) (by simp) ?_
     refine AllReadyH.cons rfl (fun K hK => ?_) AllReadyH.nil
     go_simp
     refine (HPut i y Hy.out _ hA0).out.mono ?_
     rintro e' y1 ⟨rfl, hA3, hk3⟩
     have HX := Lib.hid (And.intro hA3 (hK0.trans hk3))
     have hk9 := hk3
     clear hA3 hk3 hA0 hK0
     go_simp
     refine hK.out _ _ (⟨hk9.cell (p := ⟨g, 5, none⟩) hS.1 (by simpa using Hgb.out), hk9.cell (p := ⟨bO, oO + i, none⟩) hS.2.1 (by simpa using hbOb.out), Nat.lt_of_lt_of_le hS.2.2.1 hk9.size, Nat.lt_of_lt_of_le hS.2.2.2 hk9.size⟩) (fun hS => ?_)
     clear hK K
     try simp only [zA, zB, zC, zD, zE]
     refine wpAnyH_done (by kernel_rfl) ?_ _
     go_wp2_with fail
     go_roundw
     case rel => exact ⟨i + 1, by omega, by first | rfl | simp | go_num, HX.out.1, HX.out.2⟩
     case measure => simp [intOf]; omega
    ·obtain rfl : i = sls.length := by omega
     have nlt : ¬ ((sls.length : Int) < (sls.length : Int)) := by omega
     have HA3 : Hid (Arn wr p b (putW ws (k + 2) OUT)) := Lib.hid (by have h := HA2.out; rw [HWS.out, List.take_of_length_le (by rw [Hlo.out]; exact Nat.le_refl _)] at h; exact h)
     have HTr : Hid (Lvr wr g p s t i h fA fl.length fc r) := Lib.hid (HK2.out.row HT5.out (by simpa using Hgb.out))
     have HSr : Hid (Cells wr r.said.a (Ss.flatMap nCells)) := Lib.hid (Cells.kept (Cells.below HSs.out HB.out) HK2.out (fun z hz => by simpa using HSb.out z hz))
     have H3r : Hid (Cells wr A3 (SAY.flatMap nCells)) := Lib.hid (Cells.kept HT3.out.1 HK2.out (fun z hz => by have := HT3.out.2 z hz; have := HbW.out; simp; omega))
     have HKr : Hid (Keep [g, b] w wr) := Lib.hid ((keep_below HB.out [g, b]).trans (HK2.out.sub (T := [g, b]) (fun j hj => by simp at hj; simp [hj])))
     go_wp2_with fail
     clear nlt HO HO0 HPl HA2 HK2 HT5 HT3 HB
     cases hh with
     | true =>
      refine wp_region_held_drew (S := fun _ => True) (by kernel_rfl) trivial ?_
      intro hS
      have hB0 : Below wr.heap.size wr wr.drew := Below.drew (Below.refl _ _)
      have hT0 : Lvr wr.drew g p s t i h fA fl.length fc r := HTr.out
      generalize wr.drew = y0 at hS hB0 hT0 ⊢
      refine tk (i := 0) (v := ?v0x79) (some 116) rfl rfl (Or.inl ⟨by kernel_rfl, ?h0x79⟩) ?r0x79
      case h0x79 => (intro w' hSw; go_simp; first | done | (with_reducible rfl))
      try simp only [zA, zB, zC, zD, zE]
      refine tk (i := 1) (v := ?v1x80) (some 117) rfl rfl (Or.inl ⟨by kernel_rfl, ?h1x80⟩) ?r1x80
      case h1x80 => (intro w' hSw; go_simp; first | done | (with_reducible rfl))
      try simp only [zA, zB, zC, zD, zE]
      refine tk (i := 2) (v := ?v2x81) (some 118) rfl rfl (Or.inl ⟨by kernel_rfl, ?h2x81⟩) ?r2x81
      case h2x81 => (intro w' hSw; go_simp; first | done | (with_reducible rfl))
      try simp only [zA, zB, zC, zD, zE]
      refine tk (i := 3) (v := ?v3x82) (some 119) rfl rfl (Or.inl ⟨by kernel_rfl, ?h3x82⟩) ?r3x82
      case h3x82 => (intro w' hSw; go_simp; first | done | (with_reducible rfl))
      try simp only [zA, zB, zC, zD, zE]
      refine tk (i := 4) (v := ?v4x83) (some 120) rfl rfl (Or.inl ⟨by kernel_rfl, ?h4x83⟩) ?r4x83
      case h4x83 => (intro w' hSw; go_simp; first | done | (with_reducible rfl))
      try simp only [zA, zB, zC, zD, zE]
      refine tk (i := 5) (v := ?v5x84) (some 121) rfl rfl (Or.inl ⟨by kernel_rfl, ?h5x84⟩) ?r5x84
      case h5x84 => (intro w' hSw; go_simp; first | done | (with_reducible rfl))
      try simp only [zA, zB, zC, zD, zE]
      refine tk (i := 6) (v := ?v6x85) (some 122) rfl rfl (Or.inl ⟨by kernel_rfl, ?h6x85⟩) ?r6x85
      case h6x85 => (intro w' hSw; go_simp; first | done | (with_reducible rfl))
      try simp only [zA, zB, zC, zD, zE]
      refine tk (i := 7) (v := ?v7x86) (some 123) rfl rfl (Or.inl ⟨by kernel_rfl, ?h7x86⟩) ?r7x86
      case h7x86 => (intro w' hSw; go_simp; first | done | (with_reducible rfl))
      try simp only [zA, zB, zC, zD, zE]
      refine tk (i := 9) (v := ?v9x87) (some 125) rfl rfl (Or.inl ⟨by kernel_rfl, ?h9x87⟩) ?r9x87
      case h9x87 => (intro w' hSw; go_simp; first | done | (with_reducible rfl))
      try simp only [zA, zB, zC, zD, zE]
      refine tk (i := 12) (v := ?v12x88) (some 128) rfl rfl (Or.inl ⟨by kernel_rfl, ?h12x88⟩) ?r12x88
      case h12x88 => (intro w' hSw; go_simp; first | done | (with_reducible rfl))
      try simp only [zA, zB, zC, zD, zE]
      refine tk (i := 13) (v := ?v13x89) (some 129) rfl rfl (Or.inl ⟨by kernel_rfl, ?h13x89⟩) ?r13x89
      case h13x89 => (intro w' hSw; go_simp; first | done | (with_reducible rfl))
      try simp only [zA, zB, zC, zD, zE]
      refine tk (i := 14) (v := ?v14x90) (some 130) rfl rfl (Or.inl ⟨by kernel_rfl, ?h14x90⟩) ?r14x90
      case h14x90 => (intro w' hSw; go_simp; first | done | (with_reducible rfl))
      try simp only [zA, zB, zC, zD, zE]
      refine tk (i := 15) (v := ?v15x91) (some 131) rfl rfl (Or.inl ⟨by kernel_rfl, ?h15x91⟩) ?r15x91
      case h15x91 => (intro w' hSw; go_simp; first | done | (with_reducible rfl))
      try simp only [zA, zB, zC, zD, zE]
      refine wpAnyH_ready (rs := [8, 16]) (by kernel_rfl) (by simp) ?_
      refine AllReadyH.cons rfl (fun K hK => ?_) (AllReadyH.cons rfl (fun K hK => ?_) AllReadyH.nil)
      ·skip
       have b24 : y0.cell? ⟨g, 24, none⟩ = some r.said.v := Lvr.hi hT0 24 18 _ rfl rfl
       rw [show r.said.v = .slice r.said.a Ss.length r.said.c from by rw [← Hsn.out]] at b24
       have zg := lt_of_heap hT0
       go_simp
       clear b24 zg
       refine hK.out _ _ (trivial) (fun hS => ?_)
       clear hK K
       try simp only [zA, zB, zC, zD, zE]
       refine wpAnyH_ready (rs := [10, 16]) (by kernel_rfl) (by simp) ?_
       refine AllReadyH.cons rfl (fun K hK => ?_) (AllReadyH.cons rfl (fun K hK => ?_) AllReadyH.nil)
       ·skip
        go_simp
        refine k_alloc (fun yL hL hb => ?_)
        obtain ⟨gL, HgL⟩ : ∃ x, x = y0.heap.size := ⟨_, rfl⟩
        replace hB0 := below_only hB0 hb
        have hT0 : Lvr yL g p s t i h fA fl.length fc r := row_below HTr.out hB0
        rw [← HgL] at hL ⊢
        clear HgL hb
        refine hK.out _ _ (trivial) (fun hS => ?_)
        clear hK K
        try simp only [zA, zB, zC, zD, zE]
        refine wpAnyH_ready (rs := [11, 16]) (by kernel_rfl) (by simp) ?_
        refine AllReadyH.cons rfl (fun K hK => ?_) (AllReadyH.cons rfl (fun K hK => ?_) AllReadyH.nil)
        ·skip
         go_simp
         refine (concat_any gL 2 Ss SAY r.said.a A3 r.said.c c3 _ hL (Cells.below HSr.out hB0) (Cells.below H3r.out hB0) (by have := HSay.out; have := Hs8.out; omega)).mono ?_
         rintro e' yC ⟨vC, rfl, A4, c4, rfl, hc4, hcs4, hfar4, hb⟩
         go_simp
         have hfar : ∀ z, A4 = some z → wr.heap.size ≤ z.block := fun z hz => Nat.le_trans hB0.size (hfar4 z hz)
         replace hB0 := below_only hB0 hb
         have hT0 : Lvr yC g p s t i h fA fl.length fc r := row_below HTr.out hB0
         refine hK.out _ _ (trivial) (fun hS => ?_)
         clear hK K
         try simp only [zA, zB, zC, zD, zE]
         have Hc4 := Lib.hid hc4
         clear hb hfar4 hc4 hL
         refine wpAnyH_ready (rs := [16]) (by kernel_rfl) (by simp) ?_
         refine AllReadyH.cons rfl (fun K hK => ?_) AllReadyH.nil
         have b26 : yC.cell? ⟨g, 26, none⟩ = some (.bool r.held) := Lvr.hi hT0 26 20 _ rfl rfl
         rw [Hhh.out] at b26
         have zg := lt_of_heap hT0
         go_simp
         clear b26 zg
         refine hK.out _ _ (trivial) (fun hS => ?_)
         clear hK K
         try simp only [zA, zB, zC, zD, zE]
         refine tk (i := 17) (v := ?v17x92) (some 133) rfl rfl (Or.inl ⟨by kernel_rfl, ?h17x92⟩) ?r17x92
         case h17x92 => (intro w' hSw; go_simp; first | done | (with_reducible rfl))
         try simp only [zA, zB, zC, zD, zE]
         refine tk (i := 18) (v := undef) (some 134) rfl rfl (Or.inr ⟨by kernel_rfl, rfl⟩) ?_
         try simp only [zA, zB, zC, zD, zE]
         refine tk (i := 19) (v := ?v19x93) (some 135) rfl rfl (Or.inl ⟨by kernel_rfl, ?h19x93⟩) ?r19x93
         case h19x93 => (intro w' hSw; go_simp; first | done | (with_reducible rfl))
         try simp only [zA, zB, zC, zD, zE]
         refine tk (i := 20) (v := ?v20x94) (some 136) rfl rfl (Or.inl ⟨by kernel_rfl, ?h20x94⟩) ?r20x94
         case h20x94 => (intro w' hSw; go_simp; first | done | (with_reducible rfl))
         try simp only [zA, zB, zC, zD, zE]
         refine tk (i := 21) (v := ?v21x95) (some 137) rfl rfl (Or.inl ⟨by kernel_rfl, ?h21x95⟩) ?r21x95
         case h21x95 => (intro w' hSw; go_simp; first | done | (with_reducible rfl))
         try simp only [zA, zB, zC, zD, zE]
         refine tk (i := 22) (v := ?v22x96) (some 138) rfl rfl (Or.inl ⟨by kernel_rfl, ?h22x96⟩) ?r22x96
         case h22x96 => (intro w' hSw; go_simp; first | done | (with_reducible rfl))
         try simp only [zA, zB, zC, zD, zE]
         refine wpAnyH_ready (rs := [23]) (by kernel_rfl) (by simp) ?_
         refine AllReadyH.cons rfl (fun K hK => ?_) AllReadyH.nil
         refine step_store_one none rfl rfl 3 (.tmp 138) (.tmp 119) rfl g 23 (.int .i64 (nn : Int)) rfl rfl _ _ hT0 (by rw [lvr_size]; decide) infoI64 rfl ?_
         refine set_oneR (P := K _) yC g 23 (.int .i64 (nn : Int)) _ _ hT0 ?_
         intro yS hr hk_yS
         rw [pre_set _ _ 23 17 _ rfl] at hr
         have hT1 : Lvr yS g p s t i h fA fl.length fc { r with op := (nn : Int) } := hr
         clear hr
         refine hK.out _ _ (trivial) (fun hS => ?_)
         clear hK K
         try simp only [zA, zB, zC, zD, zE]
         refine tk (i := 24) (v := ?v24x97) (some 139) rfl rfl (Or.inl ⟨by kernel_rfl, ?h24x97⟩) ?r24x97
         case h24x97 => (intro w' hSw; go_simp; first | done | (with_reducible rfl))
         try simp only [zA, zB, zC, zD, zE]
         refine tk (i := 25) (v := ?v25x98) (some 140) rfl rfl (Or.inl ⟨by kernel_rfl, ?h25x98⟩) ?r25x98
         case h25x98 => (intro w' hSw; go_simp; first | done | (with_reducible rfl))
         try simp only [zA, zB, zC, zD, zE]
         refine tk (i := 26) (v := ?v26x99) (some 141) rfl rfl (Or.inl ⟨by kernel_rfl, ?h26x99⟩) ?r26x99
         case h26x99 => (intro w' hSw; go_simp; first | done | (with_reducible rfl))
         try simp only [zA, zB, zC, zD, zE]
         refine wpAnyH_ready (rs := [27]) (by kernel_rfl) (by simp) ?_
         refine AllReadyH.cons rfl (fun K hK => ?_) AllReadyH.nil
         refine step_store_one none rfl rfl 38 (.tmp 141) (.tmp 127) rfl g 24 (.slice A4 (Ss.length + SAY.length) c4) rfl rfl _ _ hT1 (by rw [lvr_size]; decide) infoInts rfl ?_
         refine set_oneR (P := K _) yS g 24 (.slice A4 (Ss.length + SAY.length) c4) _ _ hT1 ?_
         intro yT hr hk_yT
         rw [show Value.slice A4 (Ss.length + SAY.length) c4 = (⟨A4, Ss.length + SAY.length, c4⟩ : Sl).v from rfl, pre_set _ _ 24 18 _ rfl] at hr
         have hT2 : Lvr yT g p s t i h fA fl.length fc { r with op := (nn : Int), said := (⟨A4, Ss.length + SAY.length, c4⟩ : Sl) } := hr
         clear hr
         refine hK.out _ _ (trivial) (fun hS => ?_)
         clear hK K
         try simp only [zA, zB, zC, zD, zE]
         refine tk (i := 28) (v := ?v28x100) (some 142) rfl rfl (Or.inl ⟨by kernel_rfl, ?h28x100⟩) ?r28x100
         case h28x100 => (intro w' hSw; go_simp; first | done | (with_reducible rfl))
         try simp only [zA, zB, zC, zD, zE]
         refine tk (i := 29) (v := ?v29x101) (some 143) rfl rfl (Or.inl ⟨by kernel_rfl, ?h29x101⟩) ?r29x101
         case h29x101 => (intro w' hSw; go_simp; first | done | (with_reducible rfl))
         try simp only [zA, zB, zC, zD, zE]
         refine tk (i := 30) (v := ?v30x102) (some 144) rfl rfl (Or.inl ⟨by kernel_rfl, ?h30x102⟩) ?r30x102
         case h30x102 => (intro w' hSw; go_simp; first | done | (with_reducible rfl))
         try simp only [zA, zB, zC, zD, zE]
         refine wpAnyH_ready (rs := [31]) (by kernel_rfl) (by simp) ?_
         refine AllReadyH.cons rfl (fun K hK => ?_) AllReadyH.nil
         refine step_store_one none rfl rfl 4 (.tmp 144) (.tmp 135) rfl g 26 (.bool true) rfl rfl _ _ hT2 (by rw [lvr_size]; decide) infoBool1 rfl ?_
         refine set_oneR (P := K _) yT g 26 (.bool true) _ _ hT2 ?_
         intro yU hr hk_yU
         rw [pre_set _ _ 26 20 _ rfl] at hr
         have hT3 : Lvr yU g p s t i h fA fl.length fc { r with op := (nn : Int), said := (⟨A4, Ss.length + SAY.length, c4⟩ : Sl), held := true } := hr
         clear hr
         refine hK.out _ _ (trivial) (fun hS => ?_)
         clear hK K
         try simp only [zA, zB, zC, zD, zE]
         refine wpAnyH_done (by kernel_rfl) ?_ _
         have hk3 : Keep [g] wr yU := (((keep_below hB0 [g]).trans hk_yS).trans hk_yT).trans hk_yU
         have HCs : Hid (Cells yU A4 ((Ss ++ SAY).flatMap nCells) ∧ ∀ z, A4 = some z → wr.heap.size ≤ z.block) := Lib.hid ⟨Cells.kept hcs4 ((hk_yS.trans hk_yT).trans hk_yU) (fun a ha => by
           have h1 := hfar a ha
           have h2 := lt_of_heap HTr.out
           simp; omega), hfar⟩
         have Hg1 : Hid (g < wr.heap.size) := Lib.hid (lt_of_heap HTr.out)
         have HTu := Lib.hid hT3
         have HAu : Hid (Arn yU p b (putW ws (k + 2) OUT)) := Lib.hid (HA3.out.kept hk3 (by simpa using Hgp.out.2.symm) (by simpa using Hgp.out.1.symm))
         have HKu : Hid (Keep [g, b] w yU) := Lib.hid (HKr.out.trans (hk3.sub (T := [g, b]) (fun i hi => by simp at hi; simp [hi])))
         have Hww : Hid (w.heap.size ≤ wr.heap.size) := Lib.hid HKr.out.size
         clear hS hB0 hT0 hT1 hT2 hT3 hk_yS hk_yT hk_yU hk3 hcs4 hfar
         have hor : (r.held || HLD) = true := by rw [Hhh.out]; rfl
         by_cases hge : x.l.length ≤ nn
         ·have hgeI : (x.l.length : Int) ≤ (nn : Int) := by omega
          have c13 := Lvr.hi HTu.out 13 7 _ rfl rfl
          have f13 := row_frozen HTu.out 13
          have zg := lt_of_heap HTu.out
          go_wp2_with fail
          clear c13 f13 zg
          refine set_oneR _ g 13 (.int .i64 21) _ _ HTu.out ?_
          intro yV hr hk
          rw [pre_set _ _ 13 7 _ rfl] at hr
          have hT4 := hr
          have hcs9 := HCs.out.1
          rw [List.flatMap_append] at hcs9
          go_end0
          refine ⟨rfl, ⟨A4, Ss.length + SAY.length, c4⟩, ?_, rfl, Hc4.out, Cells.kept hcs9 hk (fun z hz => by have h1 := HCs.out.2 z hz; have h2 := Hg1.out; simp; omega), fun z hz => Nat.le_trans Hww.out (HCs.out.2 z hz), HAu.out.kept hk (by simpa using Hgp.out.2.symm) (by simpa using Hgp.out.1.symm), HKu.out.trans (hk.sub (T := [g, b]) (fun i hi => by simp at hi; simp [hi]))⟩
          (try rw [if_pos hge])
          (try rw [hor])
          exact hT4
         ·have hgeI : ¬ ((x.l.length : Int) ≤ (nn : Int)) := by omega
          have zg := lt_of_heap HTu.out
          go_wp2_with fail
          clear zg
          have hcs9 := HCs.out.1
          rw [List.flatMap_append] at hcs9
          go_end0
          refine ⟨rfl, ⟨A4, Ss.length + SAY.length, c4⟩, ?_, rfl, Hc4.out, hcs9, fun z hz => Nat.le_trans Hww.out (HCs.out.2 z hz), HAu.out, HKu.out⟩
          (try rw [if_neg hge])
          (try rw [hor])
          exact HTu.out
        ·skip
         have b26 : yL.cell? ⟨g, 26, none⟩ = some (.bool r.held) := Lvr.hi hT0 26 20 _ rfl rfl
         rw [Hhh.out] at b26
         have zg := lt_of_heap hT0
         go_simp
         clear b26 zg
         refine hK.out _ _ (trivial) (fun hS => ?_)
         clear hK K
         try simp only [zA, zB, zC, zD, zE]
         refine wpAnyH_ready (rs := [11]) (by kernel_rfl) (by simp) ?_
         refine AllReadyH.cons rfl (fun K hK => ?_) AllReadyH.nil
         go_simp
         refine (concat_any gL 2 Ss SAY r.said.a A3 r.said.c c3 _ hL (Cells.below HSr.out hB0) (Cells.below H3r.out hB0) (by have := HSay.out; have := Hs8.out; omega)).mono ?_
         rintro e' yC ⟨vC, rfl, A4, c4, rfl, hc4, hcs4, hfar4, hb⟩
         go_simp
         have hfar : ∀ z, A4 = some z → wr.heap.size ≤ z.block := fun z hz => Nat.le_trans hB0.size (hfar4 z hz)
         replace hB0 := below_only hB0 hb
         have hT0 : Lvr yC g p s t i h fA fl.length fc r := row_below HTr.out hB0
         refine hK.out _ _ (trivial) (fun hS => ?_)
         clear hK K
         try simp only [zA, zB, zC, zD, zE]
         have Hc4 := Lib.hid hc4
         clear hb hfar4 hc4 hL
         refine tk (i := 17) (v := ?v17x103) (some 133) rfl rfl (Or.inl ⟨by kernel_rfl, ?h17x103⟩) ?r17x103
         case h17x103 => (intro w' hSw; go_simp; first | done | (with_reducible rfl))
         try simp only [zA, zB, zC, zD, zE]
         refine tk (i := 18) (v := undef) (some 134) rfl rfl (Or.inr ⟨by kernel_rfl, rfl⟩) ?_
         try simp only [zA, zB, zC, zD, zE]
         refine tk (i := 19) (v := ?v19x104) (some 135) rfl rfl (Or.inl ⟨by kernel_rfl, ?h19x104⟩) ?r19x104
         case h19x104 => (intro w' hSw; go_simp; first | done | (with_reducible rfl))
         try simp only [zA, zB, zC, zD, zE]
         refine tk (i := 20) (v := ?v20x105) (some 136) rfl rfl (Or.inl ⟨by kernel_rfl, ?h20x105⟩) ?r20x105
         case h20x105 => (intro w' hSw; go_simp; first | done | (with_reducible rfl))
         try simp only [zA, zB, zC, zD, zE]
         refine tk (i := 21) (v := ?v21x106) (some 137) rfl rfl (Or.inl ⟨by kernel_rfl, ?h21x106⟩) ?r21x106
         case h21x106 => (intro w' hSw; go_simp; first | done | (with_reducible rfl))
         try simp only [zA, zB, zC, zD, zE]
         refine tk (i := 22) (v := ?v22x107) (some 138) rfl rfl (Or.inl ⟨by kernel_rfl, ?h22x107⟩) ?r22x107
         case h22x107 => (intro w' hSw; go_simp; first | done | (with_reducible rfl))
         try simp only [zA, zB, zC, zD, zE]
         refine wpAnyH_ready (rs := [23]) (by kernel_rfl) (by simp) ?_
         refine AllReadyH.cons rfl (fun K hK => ?_) AllReadyH.nil
         refine step_store_one none rfl rfl 3 (.tmp 138) (.tmp 119) rfl g 23 (.int .i64 (nn : Int)) rfl rfl _ _ hT0 (by rw [lvr_size]; decide) infoI64 rfl ?_
         refine set_oneR (P := K _) yC g 23 (.int .i64 (nn : Int)) _ _ hT0 ?_
         intro yS hr hk_yS
         rw [pre_set _ _ 23 17 _ rfl] at hr
         have hT1 : Lvr yS g p s t i h fA fl.length fc { r with op := (nn : Int) } := hr
         clear hr
         refine hK.out _ _ (trivial) (fun hS => ?_)
         clear hK K
         try simp only [zA, zB, zC, zD, zE]
         refine tk (i := 24) (v := ?v24x108) (some 139) rfl rfl (Or.inl ⟨by kernel_rfl, ?h24x108⟩) ?r24x108
         case h24x108 => (intro w' hSw; go_simp; first | done | (with_reducible rfl))
         try simp only [zA, zB, zC, zD, zE]
         refine tk (i := 25) (v := ?v25x109) (some 140) rfl rfl (Or.inl ⟨by kernel_rfl, ?h25x109⟩) ?r25x109
         case h25x109 => (intro w' hSw; go_simp; first | done | (with_reducible rfl))
         try simp only [zA, zB, zC, zD, zE]
         refine tk (i := 26) (v := ?v26x110) (some 141) rfl rfl (Or.inl ⟨by kernel_rfl, ?h26x110⟩) ?r26x110
         case h26x110 => (intro w' hSw; go_simp; first | done | (with_reducible rfl))
         try simp only [zA, zB, zC, zD, zE]
         refine wpAnyH_ready (rs := [27]) (by kernel_rfl) (by simp) ?_
         refine AllReadyH.cons rfl (fun K hK => ?_) AllReadyH.nil
         refine step_store_one none rfl rfl 38 (.tmp 141) (.tmp 127) rfl g 24 (.slice A4 (Ss.length + SAY.length) c4) rfl rfl _ _ hT1 (by rw [lvr_size]; decide) infoInts rfl ?_
         refine set_oneR (P := K _) yS g 24 (.slice A4 (Ss.length + SAY.length) c4) _ _ hT1 ?_
         intro yT hr hk_yT
         rw [show Value.slice A4 (Ss.length + SAY.length) c4 = (⟨A4, Ss.length + SAY.length, c4⟩ : Sl).v from rfl, pre_set _ _ 24 18 _ rfl] at hr
         have hT2 : Lvr yT g p s t i h fA fl.length fc { r with op := (nn : Int), said := (⟨A4, Ss.length + SAY.length, c4⟩ : Sl) } := hr
         clear hr
         refine hK.out _ _ (trivial) (fun hS => ?_)
         clear hK K
         try simp only [zA, zB, zC, zD, zE]
         refine tk (i := 28) (v := ?v28x111) (some 142) rfl rfl (Or.inl ⟨by kernel_rfl, ?h28x111⟩) ?r28x111
         case h28x111 => (intro w' hSw; go_simp; first | done | (with_reducible rfl))
         try simp only [zA, zB, zC, zD, zE]
         refine tk (i := 29) (v := ?v29x112) (some 143) rfl rfl (Or.inl ⟨by kernel_rfl, ?h29x112⟩) ?r29x112
         case h29x112 => (intro w' hSw; go_simp; first | done | (with_reducible rfl))
         try simp only [zA, zB, zC, zD, zE]
         refine tk (i := 30) (v := ?v30x113) (some 144) rfl rfl (Or.inl ⟨by kernel_rfl, ?h30x113⟩) ?r30x113
         case h30x113 => (intro w' hSw; go_simp; first | done | (with_reducible rfl))
         try simp only [zA, zB, zC, zD, zE]
         refine wpAnyH_ready (rs := [31]) (by kernel_rfl) (by simp) ?_
         refine AllReadyH.cons rfl (fun K hK => ?_) AllReadyH.nil
         refine step_store_one none rfl rfl 4 (.tmp 144) (.tmp 135) rfl g 26 (.bool true) rfl rfl _ _ hT2 (by rw [lvr_size]; decide) infoBool1 rfl ?_
         refine set_oneR (P := K _) yT g 26 (.bool true) _ _ hT2 ?_
         intro yU hr hk_yU
         rw [pre_set _ _ 26 20 _ rfl] at hr
         have hT3 : Lvr yU g p s t i h fA fl.length fc { r with op := (nn : Int), said := (⟨A4, Ss.length + SAY.length, c4⟩ : Sl), held := true } := hr
         clear hr
         refine hK.out _ _ (trivial) (fun hS => ?_)
         clear hK K
         try simp only [zA, zB, zC, zD, zE]
         refine wpAnyH_done (by kernel_rfl) ?_ _
         have hk3 : Keep [g] wr yU := (((keep_below hB0 [g]).trans hk_yS).trans hk_yT).trans hk_yU
         have HCs : Hid (Cells yU A4 ((Ss ++ SAY).flatMap nCells) ∧ ∀ z, A4 = some z → wr.heap.size ≤ z.block) := Lib.hid ⟨Cells.kept hcs4 ((hk_yS.trans hk_yT).trans hk_yU) (fun a ha => by
           have h1 := hfar a ha
           have h2 := lt_of_heap HTr.out
           simp; omega), hfar⟩
         have Hg1 : Hid (g < wr.heap.size) := Lib.hid (lt_of_heap HTr.out)
         have HTu := Lib.hid hT3
         have HAu : Hid (Arn yU p b (putW ws (k + 2) OUT)) := Lib.hid (HA3.out.kept hk3 (by simpa using Hgp.out.2.symm) (by simpa using Hgp.out.1.symm))
         have HKu : Hid (Keep [g, b] w yU) := Lib.hid (HKr.out.trans (hk3.sub (T := [g, b]) (fun i hi => by simp at hi; simp [hi])))
         have Hww : Hid (w.heap.size ≤ wr.heap.size) := Lib.hid HKr.out.size
         clear hS hB0 hT0 hT1 hT2 hT3 hk_yS hk_yT hk_yU hk3 hcs4 hfar
         have hor : (r.held || HLD) = true := by rw [Hhh.out]; rfl
         by_cases hge : x.l.length ≤ nn
         ·have hgeI : (x.l.length : Int) ≤ (nn : Int) := by omega
          have c13 := Lvr.hi HTu.out 13 7 _ rfl rfl
          have f13 := row_frozen HTu.out 13
          have zg := lt_of_heap HTu.out
          go_wp2_with fail
          clear c13 f13 zg
          refine set_oneR _ g 13 (.int .i64 21) _ _ HTu.out ?_
          intro yV hr hk
          rw [pre_set _ _ 13 7 _ rfl] at hr
          have hT4 := hr
          have hcs9 := HCs.out.1
          rw [List.flatMap_append] at hcs9
          go_end0
          refine ⟨rfl, ⟨A4, Ss.length + SAY.length, c4⟩, ?_, rfl, Hc4.out, Cells.kept hcs9 hk (fun z hz => by have h1 := HCs.out.2 z hz; have h2 := Hg1.out; simp; omega), fun z hz => Nat.le_trans Hww.out (HCs.out.2 z hz), HAu.out.kept hk (by simpa using Hgp.out.2.symm) (by simpa using Hgp.out.1.symm), HKu.out.trans (hk.sub (T := [g, b]) (fun i hi => by simp at hi; simp [hi]))⟩
          (try rw [if_pos hge])
          (try rw [hor])
          exact hT4
         ·have hgeI : ¬ ((x.l.length : Int) ≤ (nn : Int)) := by omega
          have zg := lt_of_heap HTu.out
          go_wp2_with fail
          clear zg
          have hcs9 := HCs.out.1
          rw [List.flatMap_append] at hcs9
          go_end0
          refine ⟨rfl, ⟨A4, Ss.length + SAY.length, c4⟩, ?_, rfl, Hc4.out, hcs9, fun z hz => Nat.le_trans Hww.out (HCs.out.2 z hz), HAu.out, HKu.out⟩
          (try rw [if_neg hge])
          (try rw [hor])
          exact HTu.out
       ·skip
        have b26 : y0.cell? ⟨g, 26, none⟩ = some (.bool r.held) := Lvr.hi hT0 26 20 _ rfl rfl
        rw [Hhh.out] at b26
        have zg := lt_of_heap hT0
        go_simp
        clear b26 zg
        refine hK.out _ _ (trivial) (fun hS => ?_)
        clear hK K
        try simp only [zA, zB, zC, zD, zE]
        refine wpAnyH_ready (rs := [10]) (by kernel_rfl) (by simp) ?_
        refine AllReadyH.cons rfl (fun K hK => ?_) AllReadyH.nil
        go_simp
        refine k_alloc (fun yL hL hb => ?_)
        obtain ⟨gL, HgL⟩ : ∃ x, x = y0.heap.size := ⟨_, rfl⟩
        replace hB0 := below_only hB0 hb
        have hT0 : Lvr yL g p s t i h fA fl.length fc r := row_below HTr.out hB0
        rw [← HgL] at hL ⊢
        clear HgL hb
        refine hK.out _ _ (trivial) (fun hS => ?_)
        clear hK K
        try simp only [zA, zB, zC, zD, zE]
        refine wpAnyH_ready (rs := [11]) (by kernel_rfl) (by simp) ?_
        refine AllReadyH.cons rfl (fun K hK => ?_) AllReadyH.nil
        go_simp
        refine (concat_any gL 2 Ss SAY r.said.a A3 r.said.c c3 _ hL (Cells.below HSr.out hB0) (Cells.below H3r.out hB0) (by have := HSay.out; have := Hs8.out; omega)).mono ?_
        rintro e' yC ⟨vC, rfl, A4, c4, rfl, hc4, hcs4, hfar4, hb⟩
        go_simp
        have hfar : ∀ z, A4 = some z → wr.heap.size ≤ z.block := fun z hz => Nat.le_trans hB0.size (hfar4 z hz)
        replace hB0 := below_only hB0 hb
        have hT0 : Lvr yC g p s t i h fA fl.length fc r := row_below HTr.out hB0
        refine hK.out _ _ (trivial) (fun hS => ?_)
        clear hK K
        try simp only [zA, zB, zC, zD, zE]
        have Hc4 := Lib.hid hc4
        clear hb hfar4 hc4 hL
        refine tk (i := 17) (v := ?v17x114) (some 133) rfl rfl (Or.inl ⟨by kernel_rfl, ?h17x114⟩) ?r17x114
        case h17x114 => (intro w' hSw; go_simp; first | done | (with_reducible rfl))
        try simp only [zA, zB, zC, zD, zE]
        refine tk (i := 18) (v := undef) (some 134) rfl rfl (Or.inr ⟨by kernel_rfl, rfl⟩) ?_
        try simp only [zA, zB, zC, zD, zE]
        refine tk (i := 19) (v := ?v19x115) (some 135) rfl rfl (Or.inl ⟨by kernel_rfl, ?h19x115⟩) ?r19x115
        case h19x115 => (intro w' hSw; go_simp; first | done | (with_reducible rfl))
        try simp only [zA, zB, zC, zD, zE]
        refine tk (i := 20) (v := ?v20x116) (some 136) rfl rfl (Or.inl ⟨by kernel_rfl, ?h20x116⟩) ?r20x116
        case h20x116 => (intro w' hSw; go_simp; first | done | (with_reducible rfl))
        try simp only [zA, zB, zC, zD, zE]
        refine tk (i := 21) (v := ?v21x117) (some 137) rfl rfl (Or.inl ⟨by kernel_rfl, ?h21x117⟩) ?r21x117
        case h21x117 => (intro w' hSw; go_simp; first | done | (with_reducible rfl))
        try simp only [zA, zB, zC, zD, zE]
        refine tk (i := 22) (v := ?v22x118) (some 138) rfl rfl (Or.inl ⟨by kernel_rfl, ?h22x118⟩) ?r22x118
        case h22x118 => (intro w' hSw; go_simp; first | done | (with_reducible rfl))
        try simp only [zA, zB, zC, zD, zE]
        refine wpAnyH_ready (rs := [23]) (by kernel_rfl) (by simp) ?_
        refine AllReadyH.cons rfl (fun K hK => ?_) AllReadyH.nil
        refine step_store_one none rfl rfl 3 (.tmp 138) (.tmp 119) rfl g 23 (.int .i64 (nn : Int)) rfl rfl _ _ hT0 (by rw [lvr_size]; decide) infoI64 rfl ?_
        refine set_oneR (P := K _) yC g 23 (.int .i64 (nn : Int)) _ _ hT0 ?_
        intro yS hr hk_yS
        rw [pre_set _ _ 23 17 _ rfl] at hr
        have hT1 : Lvr yS g p s t i h fA fl.length fc { r with op := (nn : Int) } := hr
        clear hr
        refine hK.out _ _ (trivial) (fun hS => ?_)
        clear hK K
        try simp only [zA, zB, zC, zD, zE]
        refine tk (i := 24) (v := ?v24x119) (some 139) rfl rfl (Or.inl ⟨by kernel_rfl, ?h24x119⟩) ?r24x119
        case h24x119 => (intro w' hSw; go_simp; first | done | (with_reducible rfl))
        try simp only [zA, zB, zC, zD, zE]
        refine tk (i := 25) (v := ?v25x120) (some 140) rfl rfl (Or.inl ⟨by kernel_rfl, ?h25x120⟩) ?r25x120
        case h25x120 => (intro w' hSw; go_simp; first | done | (with_reducible rfl))
        try simp only [zA, zB, zC, zD, zE]
        refine tk (i := 26) (v := ?v26x121) (some 141) rfl rfl (Or.inl ⟨by kernel_rfl, ?h26x121⟩) ?r26x121
        case h26x121 => (intro w' hSw; go_simp; first | done | (with_reducible rfl))
        try simp only [zA, zB, zC, zD, zE]
        refine wpAnyH_ready (rs := [27]) (by kernel_rfl) (by simp) ?_
        refine AllReadyH.cons rfl (fun K hK => ?_) AllReadyH.nil
        refine step_store_one none rfl rfl 38 (.tmp 141) (.tmp 127) rfl g 24 (.slice A4 (Ss.length + SAY.length) c4) rfl rfl _ _ hT1 (by rw [lvr_size]; decide) infoInts rfl ?_
        refine set_oneR (P := K _) yS g 24 (.slice A4 (Ss.length + SAY.length) c4) _ _ hT1 ?_
        intro yT hr hk_yT
        rw [show Value.slice A4 (Ss.length + SAY.length) c4 = (⟨A4, Ss.length + SAY.length, c4⟩ : Sl).v from rfl, pre_set _ _ 24 18 _ rfl] at hr
        have hT2 : Lvr yT g p s t i h fA fl.length fc { r with op := (nn : Int), said := (⟨A4, Ss.length + SAY.length, c4⟩ : Sl) } := hr
        clear hr
        refine hK.out _ _ (trivial) (fun hS => ?_)
        clear hK K
        try simp only [zA, zB, zC, zD, zE]
        refine tk (i := 28) (v := ?v28x122) (some 142) rfl rfl (Or.inl ⟨by kernel_rfl, ?h28x122⟩) ?r28x122
        case h28x122 => (intro w' hSw; go_simp; first | done | (with_reducible rfl))
        try simp only [zA, zB, zC, zD, zE]
        refine tk (i := 29) (v := ?v29x123) (some 143) rfl rfl (Or.inl ⟨by kernel_rfl, ?h29x123⟩) ?r29x123
        case h29x123 => (intro w' hSw; go_simp; first | done | (with_reducible rfl))
        try simp only [zA, zB, zC, zD, zE]
        refine tk (i := 30) (v := ?v30x124) (some 144) rfl rfl (Or.inl ⟨by kernel_rfl, ?h30x124⟩) ?r30x124
        case h30x124 => (intro w' hSw; go_simp; first | done | (with_reducible rfl))
        try simp only [zA, zB, zC, zD, zE]
        refine wpAnyH_ready (rs := [31]) (by kernel_rfl) (by simp) ?_
        refine AllReadyH.cons rfl (fun K hK => ?_) AllReadyH.nil
        refine step_store_one none rfl rfl 4 (.tmp 144) (.tmp 135) rfl g 26 (.bool true) rfl rfl _ _ hT2 (by rw [lvr_size]; decide) infoBool1 rfl ?_
        refine set_oneR (P := K _) yT g 26 (.bool true) _ _ hT2 ?_
        intro yU hr hk_yU
        rw [pre_set _ _ 26 20 _ rfl] at hr
        have hT3 : Lvr yU g p s t i h fA fl.length fc { r with op := (nn : Int), said := (⟨A4, Ss.length + SAY.length, c4⟩ : Sl), held := true } := hr
        clear hr
        refine hK.out _ _ (trivial) (fun hS => ?_)
        clear hK K
        try simp only [zA, zB, zC, zD, zE]
        refine wpAnyH_done (by kernel_rfl) ?_ _
        have hk3 : Keep [g] wr yU := (((keep_below hB0 [g]).trans hk_yS).trans hk_yT).trans hk_yU
        have HCs : Hid (Cells yU A4 ((Ss ++ SAY).flatMap nCells) ∧ ∀ z, A4 = some z → wr.heap.size ≤ z.block) := Lib.hid ⟨Cells.kept hcs4 ((hk_yS.trans hk_yT).trans hk_yU) (fun a ha => by
          have h1 := hfar a ha
          have h2 := lt_of_heap HTr.out
          simp; omega), hfar⟩
        have Hg1 : Hid (g < wr.heap.size) := Lib.hid (lt_of_heap HTr.out)
        have HTu := Lib.hid hT3
        have HAu : Hid (Arn yU p b (putW ws (k + 2) OUT)) := Lib.hid (HA3.out.kept hk3 (by simpa using Hgp.out.2.symm) (by simpa using Hgp.out.1.symm))
        have HKu : Hid (Keep [g, b] w yU) := Lib.hid (HKr.out.trans (hk3.sub (T := [g, b]) (fun i hi => by simp at hi; simp [hi])))
        have Hww : Hid (w.heap.size ≤ wr.heap.size) := Lib.hid HKr.out.size
        clear hS hB0 hT0 hT1 hT2 hT3 hk_yS hk_yT hk_yU hk3 hcs4 hfar
        have hor : (r.held || HLD) = true := by rw [Hhh.out]; rfl
        by_cases hge : x.l.length ≤ nn
        ·have hgeI : (x.l.length : Int) ≤ (nn : Int) := by omega
         have c13 := Lvr.hi HTu.out 13 7 _ rfl rfl
         have f13 := row_frozen HTu.out 13
         have zg := lt_of_heap HTu.out
         go_wp2_with fail
         clear c13 f13 zg
         refine set_oneR _ g 13 (.int .i64 21) _ _ HTu.out ?_
         intro yV hr hk
         rw [pre_set _ _ 13 7 _ rfl] at hr
         have hT4 := hr
         have hcs9 := HCs.out.1
         rw [List.flatMap_append] at hcs9
         go_end0
         refine ⟨rfl, ⟨A4, Ss.length + SAY.length, c4⟩, ?_, rfl, Hc4.out, Cells.kept hcs9 hk (fun z hz => by have h1 := HCs.out.2 z hz; have h2 := Hg1.out; simp; omega), fun z hz => Nat.le_trans Hww.out (HCs.out.2 z hz), HAu.out.kept hk (by simpa using Hgp.out.2.symm) (by simpa using Hgp.out.1.symm), HKu.out.trans (hk.sub (T := [g, b]) (fun i hi => by simp at hi; simp [hi]))⟩
         (try rw [if_pos hge])
         (try rw [hor])
         exact hT4
        ·have hgeI : ¬ ((x.l.length : Int) ≤ (nn : Int)) := by omega
         have zg := lt_of_heap HTu.out
         go_wp2_with fail
         clear zg
         have hcs9 := HCs.out.1
         rw [List.flatMap_append] at hcs9
         go_end0
         refine ⟨rfl, ⟨A4, Ss.length + SAY.length, c4⟩, ?_, rfl, Hc4.out, hcs9, fun z hz => Nat.le_trans Hww.out (HCs.out.2 z hz), HAu.out, HKu.out⟩
         (try rw [if_neg hge])
         (try rw [hor])
         exact HTu.out
      ·skip
       have b26 : y0.cell? ⟨g, 26, none⟩ = some (.bool r.held) := Lvr.hi hT0 26 20 _ rfl rfl
       rw [Hhh.out] at b26
       have zg := lt_of_heap hT0
       go_simp
       clear b26 zg
       refine hK.out _ _ (trivial) (fun hS => ?_)
       clear hK K
       try simp only [zA, zB, zC, zD, zE]
       refine wpAnyH_ready (rs := [8]) (by kernel_rfl) (by simp) ?_
       refine AllReadyH.cons rfl (fun K hK => ?_) AllReadyH.nil
       have b24 : y0.cell? ⟨g, 24, none⟩ = some r.said.v := Lvr.hi hT0 24 18 _ rfl rfl
       rw [show r.said.v = .slice r.said.a Ss.length r.said.c from by rw [← Hsn.out]] at b24
       have zg := lt_of_heap hT0
       go_simp
       clear b24 zg
       refine hK.out _ _ (trivial) (fun hS => ?_)
       clear hK K
       try simp only [zA, zB, zC, zD, zE]
       refine wpAnyH_ready (rs := [10]) (by kernel_rfl) (by simp) ?_
       refine AllReadyH.cons rfl (fun K hK => ?_) AllReadyH.nil
       go_simp
       refine k_alloc (fun yL hL hb => ?_)
       obtain ⟨gL, HgL⟩ : ∃ x, x = y0.heap.size := ⟨_, rfl⟩
       replace hB0 := below_only hB0 hb
       have hT0 : Lvr yL g p s t i h fA fl.length fc r := row_below HTr.out hB0
       rw [← HgL] at hL ⊢
       clear HgL hb
       refine hK.out _ _ (trivial) (fun hS => ?_)
       clear hK K
       try simp only [zA, zB, zC, zD, zE]
       refine wpAnyH_ready (rs := [11]) (by kernel_rfl) (by simp) ?_
       refine AllReadyH.cons rfl (fun K hK => ?_) AllReadyH.nil
       go_simp
       refine (concat_any gL 2 Ss SAY r.said.a A3 r.said.c c3 _ hL (Cells.below HSr.out hB0) (Cells.below H3r.out hB0) (by have := HSay.out; have := Hs8.out; omega)).mono ?_
       rintro e' yC ⟨vC, rfl, A4, c4, rfl, hc4, hcs4, hfar4, hb⟩
       go_simp
       have hfar : ∀ z, A4 = some z → wr.heap.size ≤ z.block := fun z hz => Nat.le_trans hB0.size (hfar4 z hz)
       replace hB0 := below_only hB0 hb
       have hT0 : Lvr yC g p s t i h fA fl.length fc r := row_below HTr.out hB0
       refine hK.out _ _ (trivial) (fun hS => ?_)
       clear hK K
       try simp only [zA, zB, zC, zD, zE]
       have Hc4 := Lib.hid hc4
       clear hb hfar4 hc4 hL
       refine tk (i := 17) (v := ?v17x125) (some 133) rfl rfl (Or.inl ⟨by kernel_rfl, ?h17x125⟩) ?r17x125
       case h17x125 => (intro w' hSw; go_simp; first | done | (with_reducible rfl))
       try simp only [zA, zB, zC, zD, zE]
       refine tk (i := 18) (v := undef) (some 134) rfl rfl (Or.inr ⟨by kernel_rfl, rfl⟩) ?_
       try simp only [zA, zB, zC, zD, zE]
       refine tk (i := 19) (v := ?v19x126) (some 135) rfl rfl (Or.inl ⟨by kernel_rfl, ?h19x126⟩) ?r19x126
       case h19x126 => (intro w' hSw; go_simp; first | done | (with_reducible rfl))
       try simp only [zA, zB, zC, zD, zE]
       refine tk (i := 20) (v := ?v20x127) (some 136) rfl rfl (Or.inl ⟨by kernel_rfl, ?h20x127⟩) ?r20x127
       case h20x127 => (intro w' hSw; go_simp; first | done | (with_reducible rfl))
       try simp only [zA, zB, zC, zD, zE]
       refine tk (i := 21) (v := ?v21x128) (some 137) rfl rfl (Or.inl ⟨by kernel_rfl, ?h21x128⟩) ?r21x128
       case h21x128 => (intro w' hSw; go_simp; first | done | (with_reducible rfl))
       try simp only [zA, zB, zC, zD, zE]
       refine tk (i := 22) (v := ?v22x129) (some 138) rfl rfl (Or.inl ⟨by kernel_rfl, ?h22x129⟩) ?r22x129
       case h22x129 => (intro w' hSw; go_simp; first | done | (with_reducible rfl))
       try simp only [zA, zB, zC, zD, zE]
       refine wpAnyH_ready (rs := [23]) (by kernel_rfl) (by simp) ?_
       refine AllReadyH.cons rfl (fun K hK => ?_) AllReadyH.nil
       refine step_store_one none rfl rfl 3 (.tmp 138) (.tmp 119) rfl g 23 (.int .i64 (nn : Int)) rfl rfl _ _ hT0 (by rw [lvr_size]; decide) infoI64 rfl ?_
       refine set_oneR (P := K _) yC g 23 (.int .i64 (nn : Int)) _ _ hT0 ?_
       intro yS hr hk_yS
       rw [pre_set _ _ 23 17 _ rfl] at hr
       have hT1 : Lvr yS g p s t i h fA fl.length fc { r with op := (nn : Int) } := hr
       clear hr
       refine hK.out _ _ (trivial) (fun hS => ?_)
       clear hK K
       try simp only [zA, zB, zC, zD, zE]
       refine tk (i := 24) (v := ?v24x130) (some 139) rfl rfl (Or.inl ⟨by kernel_rfl, ?h24x130⟩) ?r24x130
       case h24x130 => (intro w' hSw; go_simp; first | done | (with_reducible rfl))
       try simp only [zA, zB, zC, zD, zE]
       refine tk (i := 25) (v := ?v25x131) (some 140) rfl rfl (Or.inl ⟨by kernel_rfl, ?h25x131⟩) ?r25x131
       case h25x131 => (intro w' hSw; go_simp; first | done | (with_reducible rfl))
       try simp only [zA, zB, zC, zD, zE]
       refine tk (i := 26) (v := ?v26x132) (some 141) rfl rfl (Or.inl ⟨by kernel_rfl, ?h26x132⟩) ?r26x132
       case h26x132 => (intro w' hSw; go_simp; first | done | (with_reducible rfl))
       try simp only [zA, zB, zC, zD, zE]
       refine wpAnyH_ready (rs := [27]) (by kernel_rfl) (by simp) ?_
       refine AllReadyH.cons rfl (fun K hK => ?_) AllReadyH.nil
       refine step_store_one none rfl rfl 38 (.tmp 141) (.tmp 127) rfl g 24 (.slice A4 (Ss.length + SAY.length) c4) rfl rfl _ _ hT1 (by rw [lvr_size]; decide) infoInts rfl ?_
       refine set_oneR (P := K _) yS g 24 (.slice A4 (Ss.length + SAY.length) c4) _ _ hT1 ?_
       intro yT hr hk_yT
       rw [show Value.slice A4 (Ss.length + SAY.length) c4 = (⟨A4, Ss.length + SAY.length, c4⟩ : Sl).v from rfl, pre_set _ _ 24 18 _ rfl] at hr
       have hT2 : Lvr yT g p s t i h fA fl.length fc { r with op := (nn : Int), said := (⟨A4, Ss.length + SAY.length, c4⟩ : Sl) } := hr
       clear hr
       refine hK.out _ _ (trivial) (fun hS => ?_)
       clear hK K
       try simp only [zA, zB, zC, zD, zE]
       refine tk (i := 28) (v := ?v28x133) (some 142) rfl rfl (Or.inl ⟨by kernel_rfl, ?h28x133⟩) ?r28x133
       case h28x133 => (intro w' hSw; go_simp; first | done | (with_reducible rfl))
       try simp only [zA, zB, zC, zD, zE]
       refine tk (i := 29) (v := ?v29x134) (some 143) rfl rfl (Or.inl ⟨by kernel_rfl, ?h29x134⟩) ?r29x134
       case h29x134 => (intro w' hSw; go_simp; first | done | (with_reducible rfl))
       try simp only [zA, zB, zC, zD, zE]
       refine tk (i := 30) (v := ?v30x135) (some 144) rfl rfl (Or.inl ⟨by kernel_rfl, ?h30x135⟩) ?r30x135
       case h30x135 => (intro w' hSw; go_simp; first | done | (with_reducible rfl))
       try simp only [zA, zB, zC, zD, zE]
       refine wpAnyH_ready (rs := [31]) (by kernel_rfl) (by simp) ?_
       refine AllReadyH.cons rfl (fun K hK => ?_) AllReadyH.nil
       refine step_store_one none rfl rfl 4 (.tmp 144) (.tmp 135) rfl g 26 (.bool true) rfl rfl _ _ hT2 (by rw [lvr_size]; decide) infoBool1 rfl ?_
       refine set_oneR (P := K _) yT g 26 (.bool true) _ _ hT2 ?_
       intro yU hr hk_yU
       rw [pre_set _ _ 26 20 _ rfl] at hr
       have hT3 : Lvr yU g p s t i h fA fl.length fc { r with op := (nn : Int), said := (⟨A4, Ss.length + SAY.length, c4⟩ : Sl), held := true } := hr
       clear hr
       refine hK.out _ _ (trivial) (fun hS => ?_)
       clear hK K
       try simp only [zA, zB, zC, zD, zE]
       refine wpAnyH_done (by kernel_rfl) ?_ _
       have hk3 : Keep [g] wr yU := (((keep_below hB0 [g]).trans hk_yS).trans hk_yT).trans hk_yU
       have HCs : Hid (Cells yU A4 ((Ss ++ SAY).flatMap nCells) ∧ ∀ z, A4 = some z → wr.heap.size ≤ z.block) := Lib.hid ⟨Cells.kept hcs4 ((hk_yS.trans hk_yT).trans hk_yU) (fun a ha => by
         have h1 := hfar a ha
         have h2 := lt_of_heap HTr.out
         simp; omega), hfar⟩
       have Hg1 : Hid (g < wr.heap.size) := Lib.hid (lt_of_heap HTr.out)
       have HTu := Lib.hid hT3
       have HAu : Hid (Arn yU p b (putW ws (k + 2) OUT)) := Lib.hid (HA3.out.kept hk3 (by simpa using Hgp.out.2.symm) (by simpa using Hgp.out.1.symm))
       have HKu : Hid (Keep [g, b] w yU) := Lib.hid (HKr.out.trans (hk3.sub (T := [g, b]) (fun i hi => by simp at hi; simp [hi])))
       have Hww : Hid (w.heap.size ≤ wr.heap.size) := Lib.hid HKr.out.size
       clear hS hB0 hT0 hT1 hT2 hT3 hk_yS hk_yT hk_yU hk3 hcs4 hfar
       have hor : (r.held || HLD) = true := by rw [Hhh.out]; rfl
       by_cases hge : x.l.length ≤ nn
       ·have hgeI : (x.l.length : Int) ≤ (nn : Int) := by omega
        have c13 := Lvr.hi HTu.out 13 7 _ rfl rfl
        have f13 := row_frozen HTu.out 13
        have zg := lt_of_heap HTu.out
        go_wp2_with fail
        clear c13 f13 zg
        refine set_oneR _ g 13 (.int .i64 21) _ _ HTu.out ?_
        intro yV hr hk
        rw [pre_set _ _ 13 7 _ rfl] at hr
        have hT4 := hr
        have hcs9 := HCs.out.1
        rw [List.flatMap_append] at hcs9
        go_end0
        refine ⟨rfl, ⟨A4, Ss.length + SAY.length, c4⟩, ?_, rfl, Hc4.out, Cells.kept hcs9 hk (fun z hz => by have h1 := HCs.out.2 z hz; have h2 := Hg1.out; simp; omega), fun z hz => Nat.le_trans Hww.out (HCs.out.2 z hz), HAu.out.kept hk (by simpa using Hgp.out.2.symm) (by simpa using Hgp.out.1.symm), HKu.out.trans (hk.sub (T := [g, b]) (fun i hi => by simp at hi; simp [hi]))⟩
        (try rw [if_pos hge])
        (try rw [hor])
        exact hT4
       ·have hgeI : ¬ ((x.l.length : Int) ≤ (nn : Int)) := by omega
        have zg := lt_of_heap HTu.out
        go_wp2_with fail
        clear zg
        have hcs9 := HCs.out.1
        rw [List.flatMap_append] at hcs9
        go_end0
        refine ⟨rfl, ⟨A4, Ss.length + SAY.length, c4⟩, ?_, rfl, Hc4.out, hcs9, fun z hz => Nat.le_trans Hww.out (HCs.out.2 z hz), HAu.out, HKu.out⟩
        (try rw [if_neg hge])
        (try rw [hor])
        exact HTu.out
     | false =>
      refine wp_region_held_drew (S := fun _ => True) (by kernel_rfl) trivial ?_
      intro hS
      have hB0 : Below wr.heap.size wr wr.drew := Below.drew (Below.refl _ _)
      have hT0 : Lvr wr.drew g p s t i h fA fl.length fc r := HTr.out
      generalize wr.drew = y0 at hS hB0 hT0 ⊢
      refine tk (i := 0) (v := ?v0x136) (some 116) rfl rfl (Or.inl ⟨by kernel_rfl, ?h0x136⟩) ?r0x136
      case h0x136 => (intro w' hSw; go_simp; first | done | (with_reducible rfl))
      try simp only [zA, zB, zC, zD, zE]
      refine tk (i := 1) (v := ?v1x137) (some 117) rfl rfl (Or.inl ⟨by kernel_rfl, ?h1x137⟩) ?r1x137
      case h1x137 => (intro w' hSw; go_simp; first | done | (with_reducible rfl))
      try simp only [zA, zB, zC, zD, zE]
      refine tk (i := 2) (v := ?v2x138) (some 118) rfl rfl (Or.inl ⟨by kernel_rfl, ?h2x138⟩) ?r2x138
      case h2x138 => (intro w' hSw; go_simp; first | done | (with_reducible rfl))
      try simp only [zA, zB, zC, zD, zE]
      refine tk (i := 3) (v := ?v3x139) (some 119) rfl rfl (Or.inl ⟨by kernel_rfl, ?h3x139⟩) ?r3x139
      case h3x139 => (intro w' hSw; go_simp; first | done | (with_reducible rfl))
      try simp only [zA, zB, zC, zD, zE]
      refine tk (i := 4) (v := ?v4x140) (some 120) rfl rfl (Or.inl ⟨by kernel_rfl, ?h4x140⟩) ?r4x140
      case h4x140 => (intro w' hSw; go_simp; first | done | (with_reducible rfl))
      try simp only [zA, zB, zC, zD, zE]
      refine tk (i := 5) (v := ?v5x141) (some 121) rfl rfl (Or.inl ⟨by kernel_rfl, ?h5x141⟩) ?r5x141
      case h5x141 => (intro w' hSw; go_simp; first | done | (with_reducible rfl))
      try simp only [zA, zB, zC, zD, zE]
      refine tk (i := 6) (v := ?v6x142) (some 122) rfl rfl (Or.inl ⟨by kernel_rfl, ?h6x142⟩) ?r6x142
      case h6x142 => (intro w' hSw; go_simp; first | done | (with_reducible rfl))
      try simp only [zA, zB, zC, zD, zE]
      refine tk (i := 7) (v := ?v7x143) (some 123) rfl rfl (Or.inl ⟨by kernel_rfl, ?h7x143⟩) ?r7x143
      case h7x143 => (intro w' hSw; go_simp; first | done | (with_reducible rfl))
      try simp only [zA, zB, zC, zD, zE]
      refine tk (i := 9) (v := ?v9x144) (some 125) rfl rfl (Or.inl ⟨by kernel_rfl, ?h9x144⟩) ?r9x144
      case h9x144 => (intro w' hSw; go_simp; first | done | (with_reducible rfl))
      try simp only [zA, zB, zC, zD, zE]
      refine tk (i := 12) (v := ?v12x145) (some 128) rfl rfl (Or.inl ⟨by kernel_rfl, ?h12x145⟩) ?r12x145
      case h12x145 => (intro w' hSw; go_simp; first | done | (with_reducible rfl))
      try simp only [zA, zB, zC, zD, zE]
      refine tk (i := 13) (v := ?v13x146) (some 129) rfl rfl (Or.inl ⟨by kernel_rfl, ?h13x146⟩) ?r13x146
      case h13x146 => (intro w' hSw; go_simp; first | done | (with_reducible rfl))
      try simp only [zA, zB, zC, zD, zE]
      refine tk (i := 14) (v := ?v14x147) (some 130) rfl rfl (Or.inl ⟨by kernel_rfl, ?h14x147⟩) ?r14x147
      case h14x147 => (intro w' hSw; go_simp; first | done | (with_reducible rfl))
      try simp only [zA, zB, zC, zD, zE]
      refine tk (i := 15) (v := ?v15x148) (some 131) rfl rfl (Or.inl ⟨by kernel_rfl, ?h15x148⟩) ?r15x148
      case h15x148 => (intro w' hSw; go_simp; first | done | (with_reducible rfl))
      try simp only [zA, zB, zC, zD, zE]
      refine wpAnyH_ready (rs := [8, 16]) (by kernel_rfl) (by simp) ?_
      refine AllReadyH.cons rfl (fun K hK => ?_) (AllReadyH.cons rfl (fun K hK => ?_) AllReadyH.nil)
      ·skip
       have b24 : y0.cell? ⟨g, 24, none⟩ = some r.said.v := Lvr.hi hT0 24 18 _ rfl rfl
       rw [show r.said.v = .slice r.said.a Ss.length r.said.c from by rw [← Hsn.out]] at b24
       have zg := lt_of_heap hT0
       go_simp
       clear b24 zg
       refine hK.out _ _ (trivial) (fun hS => ?_)
       clear hK K
       try simp only [zA, zB, zC, zD, zE]
       refine wpAnyH_ready (rs := [10, 16]) (by kernel_rfl) (by simp) ?_
       refine AllReadyH.cons rfl (fun K hK => ?_) (AllReadyH.cons rfl (fun K hK => ?_) AllReadyH.nil)
       ·skip
        go_simp
        refine k_alloc (fun yL hL hb => ?_)
        obtain ⟨gL, HgL⟩ : ∃ x, x = y0.heap.size := ⟨_, rfl⟩
        replace hB0 := below_only hB0 hb
        have hT0 : Lvr yL g p s t i h fA fl.length fc r := row_below HTr.out hB0
        rw [← HgL] at hL ⊢
        clear HgL hb
        refine hK.out _ _ (trivial) (fun hS => ?_)
        clear hK K
        try simp only [zA, zB, zC, zD, zE]
        refine wpAnyH_ready (rs := [11, 16]) (by kernel_rfl) (by simp) ?_
        refine AllReadyH.cons rfl (fun K hK => ?_) (AllReadyH.cons rfl (fun K hK => ?_) AllReadyH.nil)
        ·skip
         go_simp
         refine (concat_any gL 2 Ss SAY r.said.a A3 r.said.c c3 _ hL (Cells.below HSr.out hB0) (Cells.below H3r.out hB0) (by have := HSay.out; have := Hs8.out; omega)).mono ?_
         rintro e' yC ⟨vC, rfl, A4, c4, rfl, hc4, hcs4, hfar4, hb⟩
         go_simp
         have hfar : ∀ z, A4 = some z → wr.heap.size ≤ z.block := fun z hz => Nat.le_trans hB0.size (hfar4 z hz)
         replace hB0 := below_only hB0 hb
         have hT0 : Lvr yC g p s t i h fA fl.length fc r := row_below HTr.out hB0
         refine hK.out _ _ (trivial) (fun hS => ?_)
         clear hK K
         try simp only [zA, zB, zC, zD, zE]
         have Hc4 := Lib.hid hc4
         clear hb hfar4 hc4 hL
         refine wpAnyH_ready (rs := [16]) (by kernel_rfl) (by simp) ?_
         refine AllReadyH.cons rfl (fun K hK => ?_) AllReadyH.nil
         have b26 : yC.cell? ⟨g, 26, none⟩ = some (.bool r.held) := Lvr.hi hT0 26 20 _ rfl rfl
         rw [Hhh.out] at b26
         have zg := lt_of_heap hT0
         go_simp
         clear b26 zg
         refine hK.out _ _ (trivial) (fun hS => ?_)
         clear hK K
         try simp only [zA, zB, zC, zD, zE]
         refine tk (i := 17) (v := ?v17x149) (some 133) rfl rfl (Or.inl ⟨by kernel_rfl, ?h17x149⟩) ?r17x149
         case h17x149 => (intro w' hSw; go_simp; first | done | (with_reducible rfl))
         try simp only [zA, zB, zC, zD, zE]
         refine tk (i := 18) (v := ?v18x150) (some 134) rfl rfl (Or.inl ⟨by kernel_rfl, ?h18x150⟩) ?r18x150
         case h18x150 => (intro w' hSw; go_simp; first | done | (with_reducible rfl))
         try simp only [zA, zB, zC, zD, zE]
         refine tk (i := 19) (v := ?v19x151) (some 135) rfl rfl (Or.inl ⟨by kernel_rfl, ?h19x151⟩) ?r19x151
         case h19x151 => (intro w' hSw; go_simp; first | done | (with_reducible rfl))
         try simp only [zA, zB, zC, zD, zE]
         refine tk (i := 20) (v := ?v20x152) (some 136) rfl rfl (Or.inl ⟨by kernel_rfl, ?h20x152⟩) ?r20x152
         case h20x152 => (intro w' hSw; go_simp; first | done | (with_reducible rfl))
         try simp only [zA, zB, zC, zD, zE]
         refine tk (i := 21) (v := ?v21x153) (some 137) rfl rfl (Or.inl ⟨by kernel_rfl, ?h21x153⟩) ?r21x153
         case h21x153 => (intro w' hSw; go_simp; first | done | (with_reducible rfl))
         try simp only [zA, zB, zC, zD, zE]
         refine tk (i := 22) (v := ?v22x154) (some 138) rfl rfl (Or.inl ⟨by kernel_rfl, ?h22x154⟩) ?r22x154
         case h22x154 => (intro w' hSw; go_simp; first | done | (with_reducible rfl))
         try simp only [zA, zB, zC, zD, zE]
         refine wpAnyH_ready (rs := [23]) (by kernel_rfl) (by simp) ?_
         refine AllReadyH.cons rfl (fun K hK => ?_) AllReadyH.nil
         refine step_store_one none rfl rfl 3 (.tmp 138) (.tmp 119) rfl g 23 (.int .i64 (nn : Int)) rfl rfl _ _ hT0 (by rw [lvr_size]; decide) infoI64 rfl ?_
         refine set_oneR (P := K _) yC g 23 (.int .i64 (nn : Int)) _ _ hT0 ?_
         intro yS hr hk_yS
         rw [pre_set _ _ 23 17 _ rfl] at hr
         have hT1 : Lvr yS g p s t i h fA fl.length fc { r with op := (nn : Int) } := hr
         clear hr
         refine hK.out _ _ (trivial) (fun hS => ?_)
         clear hK K
         try simp only [zA, zB, zC, zD, zE]
         refine tk (i := 24) (v := ?v24x155) (some 139) rfl rfl (Or.inl ⟨by kernel_rfl, ?h24x155⟩) ?r24x155
         case h24x155 => (intro w' hSw; go_simp; first | done | (with_reducible rfl))
         try simp only [zA, zB, zC, zD, zE]
         refine tk (i := 25) (v := ?v25x156) (some 140) rfl rfl (Or.inl ⟨by kernel_rfl, ?h25x156⟩) ?r25x156
         case h25x156 => (intro w' hSw; go_simp; first | done | (with_reducible rfl))
         try simp only [zA, zB, zC, zD, zE]
         refine tk (i := 26) (v := ?v26x157) (some 141) rfl rfl (Or.inl ⟨by kernel_rfl, ?h26x157⟩) ?r26x157
         case h26x157 => (intro w' hSw; go_simp; first | done | (with_reducible rfl))
         try simp only [zA, zB, zC, zD, zE]
         refine wpAnyH_ready (rs := [27]) (by kernel_rfl) (by simp) ?_
         refine AllReadyH.cons rfl (fun K hK => ?_) AllReadyH.nil
         refine step_store_one none rfl rfl 38 (.tmp 141) (.tmp 127) rfl g 24 (.slice A4 (Ss.length + SAY.length) c4) rfl rfl _ _ hT1 (by rw [lvr_size]; decide) infoInts rfl ?_
         refine set_oneR (P := K _) yS g 24 (.slice A4 (Ss.length + SAY.length) c4) _ _ hT1 ?_
         intro yT hr hk_yT
         rw [show Value.slice A4 (Ss.length + SAY.length) c4 = (⟨A4, Ss.length + SAY.length, c4⟩ : Sl).v from rfl, pre_set _ _ 24 18 _ rfl] at hr
         have hT2 : Lvr yT g p s t i h fA fl.length fc { r with op := (nn : Int), said := (⟨A4, Ss.length + SAY.length, c4⟩ : Sl) } := hr
         clear hr
         refine hK.out _ _ (trivial) (fun hS => ?_)
         clear hK K
         try simp only [zA, zB, zC, zD, zE]
         refine tk (i := 28) (v := ?v28x158) (some 142) rfl rfl (Or.inl ⟨by kernel_rfl, ?h28x158⟩) ?r28x158
         case h28x158 => (intro w' hSw; go_simp; first | done | (with_reducible rfl))
         try simp only [zA, zB, zC, zD, zE]
         refine tk (i := 29) (v := ?v29x159) (some 143) rfl rfl (Or.inl ⟨by kernel_rfl, ?h29x159⟩) ?r29x159
         case h29x159 => (intro w' hSw; go_simp; first | done | (with_reducible rfl))
         try simp only [zA, zB, zC, zD, zE]
         refine tk (i := 30) (v := ?v30x160) (some 144) rfl rfl (Or.inl ⟨by kernel_rfl, ?h30x160⟩) ?r30x160
         case h30x160 => (intro w' hSw; go_simp; first | done | (with_reducible rfl))
         try simp only [zA, zB, zC, zD, zE]
         refine wpAnyH_ready (rs := [31]) (by kernel_rfl) (by simp) ?_
         refine AllReadyH.cons rfl (fun K hK => ?_) AllReadyH.nil
         refine step_store_one none rfl rfl 4 (.tmp 144) (.tmp 135) rfl g 26 (.bool HLD) rfl rfl _ _ hT2 (by rw [lvr_size]; decide) infoBool1 rfl ?_
         refine set_oneR (P := K _) yT g 26 (.bool HLD) _ _ hT2 ?_
         intro yU hr hk_yU
         rw [pre_set _ _ 26 20 _ rfl] at hr
         have hT3 : Lvr yU g p s t i h fA fl.length fc { r with op := (nn : Int), said := (⟨A4, Ss.length + SAY.length, c4⟩ : Sl), held := HLD } := hr
         clear hr
         refine hK.out _ _ (trivial) (fun hS => ?_)
         clear hK K
         try simp only [zA, zB, zC, zD, zE]
         refine wpAnyH_done (by kernel_rfl) ?_ _
         have hk3 : Keep [g] wr yU := (((keep_below hB0 [g]).trans hk_yS).trans hk_yT).trans hk_yU
         have HCs : Hid (Cells yU A4 ((Ss ++ SAY).flatMap nCells) ∧ ∀ z, A4 = some z → wr.heap.size ≤ z.block) := Lib.hid ⟨Cells.kept hcs4 ((hk_yS.trans hk_yT).trans hk_yU) (fun a ha => by
           have h1 := hfar a ha
           have h2 := lt_of_heap HTr.out
           simp; omega), hfar⟩
         have Hg1 : Hid (g < wr.heap.size) := Lib.hid (lt_of_heap HTr.out)
         have HTu := Lib.hid hT3
         have HAu : Hid (Arn yU p b (putW ws (k + 2) OUT)) := Lib.hid (HA3.out.kept hk3 (by simpa using Hgp.out.2.symm) (by simpa using Hgp.out.1.symm))
         have HKu : Hid (Keep [g, b] w yU) := Lib.hid (HKr.out.trans (hk3.sub (T := [g, b]) (fun i hi => by simp at hi; simp [hi])))
         have Hww : Hid (w.heap.size ≤ wr.heap.size) := Lib.hid HKr.out.size
         clear hS hB0 hT0 hT1 hT2 hT3 hk_yS hk_yT hk_yU hk3 hcs4 hfar
         have hor : (r.held || HLD) = HLD := by rw [Hhh.out]; rfl
         by_cases hge : x.l.length ≤ nn
         ·have hgeI : (x.l.length : Int) ≤ (nn : Int) := by omega
          have c13 := Lvr.hi HTu.out 13 7 _ rfl rfl
          have f13 := row_frozen HTu.out 13
          have zg := lt_of_heap HTu.out
          go_wp2_with fail
          clear c13 f13 zg
          refine set_oneR _ g 13 (.int .i64 21) _ _ HTu.out ?_
          intro yV hr hk
          rw [pre_set _ _ 13 7 _ rfl] at hr
          have hT4 := hr
          have hcs9 := HCs.out.1
          rw [List.flatMap_append] at hcs9
          go_end0
          refine ⟨rfl, ⟨A4, Ss.length + SAY.length, c4⟩, ?_, rfl, Hc4.out, Cells.kept hcs9 hk (fun z hz => by have h1 := HCs.out.2 z hz; have h2 := Hg1.out; simp; omega), fun z hz => Nat.le_trans Hww.out (HCs.out.2 z hz), HAu.out.kept hk (by simpa using Hgp.out.2.symm) (by simpa using Hgp.out.1.symm), HKu.out.trans (hk.sub (T := [g, b]) (fun i hi => by simp at hi; simp [hi]))⟩
          (try rw [if_pos hge])
          (try rw [hor])
          exact hT4
         ·have hgeI : ¬ ((x.l.length : Int) ≤ (nn : Int)) := by omega
          have zg := lt_of_heap HTu.out
          go_wp2_with fail
          clear zg
          have hcs9 := HCs.out.1
          rw [List.flatMap_append] at hcs9
          go_end0
          refine ⟨rfl, ⟨A4, Ss.length + SAY.length, c4⟩, ?_, rfl, Hc4.out, hcs9, fun z hz => Nat.le_trans Hww.out (HCs.out.2 z hz), HAu.out, HKu.out⟩
          (try rw [if_neg hge])
          (try rw [hor])
          exact HTu.out
        ·skip
         have b26 : yL.cell? ⟨g, 26, none⟩ = some (.bool r.held) := Lvr.hi hT0 26 20 _ rfl rfl
         rw [Hhh.out] at b26
         have zg := lt_of_heap hT0
         go_simp
         clear b26 zg
         refine hK.out _ _ (trivial) (fun hS => ?_)
         clear hK K
         try simp only [zA, zB, zC, zD, zE]
         refine wpAnyH_ready (rs := [11]) (by kernel_rfl) (by simp) ?_
         refine AllReadyH.cons rfl (fun K hK => ?_) AllReadyH.nil
         go_simp
         refine (concat_any gL 2 Ss SAY r.said.a A3 r.said.c c3 _ hL (Cells.below HSr.out hB0) (Cells.below H3r.out hB0) (by have := HSay.out; have := Hs8.out; omega)).mono ?_
         rintro e' yC ⟨vC, rfl, A4, c4, rfl, hc4, hcs4, hfar4, hb⟩
         go_simp
         have hfar : ∀ z, A4 = some z → wr.heap.size ≤ z.block := fun z hz => Nat.le_trans hB0.size (hfar4 z hz)
         replace hB0 := below_only hB0 hb
         have hT0 : Lvr yC g p s t i h fA fl.length fc r := row_below HTr.out hB0
         refine hK.out _ _ (trivial) (fun hS => ?_)
         clear hK K
         try simp only [zA, zB, zC, zD, zE]
         have Hc4 := Lib.hid hc4
         clear hb hfar4 hc4 hL
         refine tk (i := 17) (v := ?v17x161) (some 133) rfl rfl (Or.inl ⟨by kernel_rfl, ?h17x161⟩) ?r17x161
         case h17x161 => (intro w' hSw; go_simp; first | done | (with_reducible rfl))
         try simp only [zA, zB, zC, zD, zE]
         refine tk (i := 18) (v := ?v18x162) (some 134) rfl rfl (Or.inl ⟨by kernel_rfl, ?h18x162⟩) ?r18x162
         case h18x162 => (intro w' hSw; go_simp; first | done | (with_reducible rfl))
         try simp only [zA, zB, zC, zD, zE]
         refine tk (i := 19) (v := ?v19x163) (some 135) rfl rfl (Or.inl ⟨by kernel_rfl, ?h19x163⟩) ?r19x163
         case h19x163 => (intro w' hSw; go_simp; first | done | (with_reducible rfl))
         try simp only [zA, zB, zC, zD, zE]
         refine tk (i := 20) (v := ?v20x164) (some 136) rfl rfl (Or.inl ⟨by kernel_rfl, ?h20x164⟩) ?r20x164
         case h20x164 => (intro w' hSw; go_simp; first | done | (with_reducible rfl))
         try simp only [zA, zB, zC, zD, zE]
         refine tk (i := 21) (v := ?v21x165) (some 137) rfl rfl (Or.inl ⟨by kernel_rfl, ?h21x165⟩) ?r21x165
         case h21x165 => (intro w' hSw; go_simp; first | done | (with_reducible rfl))
         try simp only [zA, zB, zC, zD, zE]
         refine tk (i := 22) (v := ?v22x166) (some 138) rfl rfl (Or.inl ⟨by kernel_rfl, ?h22x166⟩) ?r22x166
         case h22x166 => (intro w' hSw; go_simp; first | done | (with_reducible rfl))
         try simp only [zA, zB, zC, zD, zE]
         refine wpAnyH_ready (rs := [23]) (by kernel_rfl) (by simp) ?_
         refine AllReadyH.cons rfl (fun K hK => ?_) AllReadyH.nil
         refine step_store_one none rfl rfl 3 (.tmp 138) (.tmp 119) rfl g 23 (.int .i64 (nn : Int)) rfl rfl _ _ hT0 (by rw [lvr_size]; decide) infoI64 rfl ?_
         refine set_oneR (P := K _) yC g 23 (.int .i64 (nn : Int)) _ _ hT0 ?_
         intro yS hr hk_yS
         rw [pre_set _ _ 23 17 _ rfl] at hr
         have hT1 : Lvr yS g p s t i h fA fl.length fc { r with op := (nn : Int) } := hr
         clear hr
         refine hK.out _ _ (trivial) (fun hS => ?_)
         clear hK K
         try simp only [zA, zB, zC, zD, zE]
         refine tk (i := 24) (v := ?v24x167) (some 139) rfl rfl (Or.inl ⟨by kernel_rfl, ?h24x167⟩) ?r24x167
         case h24x167 => (intro w' hSw; go_simp; first | done | (with_reducible rfl))
         try simp only [zA, zB, zC, zD, zE]
         refine tk (i := 25) (v := ?v25x168) (some 140) rfl rfl (Or.inl ⟨by kernel_rfl, ?h25x168⟩) ?r25x168
         case h25x168 => (intro w' hSw; go_simp; first | done | (with_reducible rfl))
         try simp only [zA, zB, zC, zD, zE]
         refine tk (i := 26) (v := ?v26x169) (some 141) rfl rfl (Or.inl ⟨by kernel_rfl, ?h26x169⟩) ?r26x169
         case h26x169 => (intro w' hSw; go_simp; first | done | (with_reducible rfl))
         try simp only [zA, zB, zC, zD, zE]
         refine wpAnyH_ready (rs := [27]) (by kernel_rfl) (by simp) ?_
         refine AllReadyH.cons rfl (fun K hK => ?_) AllReadyH.nil
         refine step_store_one none rfl rfl 38 (.tmp 141) (.tmp 127) rfl g 24 (.slice A4 (Ss.length + SAY.length) c4) rfl rfl _ _ hT1 (by rw [lvr_size]; decide) infoInts rfl ?_
         refine set_oneR (P := K _) yS g 24 (.slice A4 (Ss.length + SAY.length) c4) _ _ hT1 ?_
         intro yT hr hk_yT
         rw [show Value.slice A4 (Ss.length + SAY.length) c4 = (⟨A4, Ss.length + SAY.length, c4⟩ : Sl).v from rfl, pre_set _ _ 24 18 _ rfl] at hr
         have hT2 : Lvr yT g p s t i h fA fl.length fc { r with op := (nn : Int), said := (⟨A4, Ss.length + SAY.length, c4⟩ : Sl) } := hr
         clear hr
         refine hK.out _ _ (trivial) (fun hS => ?_)
         clear hK K
         try simp only [zA, zB, zC, zD, zE]
         refine tk (i := 28) (v := ?v28x170) (some 142) rfl rfl (Or.inl ⟨by kernel_rfl, ?h28x170⟩) ?r28x170
         case h28x170 => (intro w' hSw; go_simp; first | done | (with_reducible rfl))
         try simp only [zA, zB, zC, zD, zE]
         refine tk (i := 29) (v := ?v29x171) (some 143) rfl rfl (Or.inl ⟨by kernel_rfl, ?h29x171⟩) ?r29x171
         case h29x171 => (intro w' hSw; go_simp; first | done | (with_reducible rfl))
         try simp only [zA, zB, zC, zD, zE]
         refine tk (i := 30) (v := ?v30x172) (some 144) rfl rfl (Or.inl ⟨by kernel_rfl, ?h30x172⟩) ?r30x172
         case h30x172 => (intro w' hSw; go_simp; first | done | (with_reducible rfl))
         try simp only [zA, zB, zC, zD, zE]
         refine wpAnyH_ready (rs := [31]) (by kernel_rfl) (by simp) ?_
         refine AllReadyH.cons rfl (fun K hK => ?_) AllReadyH.nil
         refine step_store_one none rfl rfl 4 (.tmp 144) (.tmp 135) rfl g 26 (.bool HLD) rfl rfl _ _ hT2 (by rw [lvr_size]; decide) infoBool1 rfl ?_
         refine set_oneR (P := K _) yT g 26 (.bool HLD) _ _ hT2 ?_
         intro yU hr hk_yU
         rw [pre_set _ _ 26 20 _ rfl] at hr
         have hT3 : Lvr yU g p s t i h fA fl.length fc { r with op := (nn : Int), said := (⟨A4, Ss.length + SAY.length, c4⟩ : Sl), held := HLD } := hr
         clear hr
         refine hK.out _ _ (trivial) (fun hS => ?_)
         clear hK K
         try simp only [zA, zB, zC, zD, zE]
         refine wpAnyH_done (by kernel_rfl) ?_ _
         have hk3 : Keep [g] wr yU := (((keep_below hB0 [g]).trans hk_yS).trans hk_yT).trans hk_yU
         have HCs : Hid (Cells yU A4 ((Ss ++ SAY).flatMap nCells) ∧ ∀ z, A4 = some z → wr.heap.size ≤ z.block) := Lib.hid ⟨Cells.kept hcs4 ((hk_yS.trans hk_yT).trans hk_yU) (fun a ha => by
           have h1 := hfar a ha
           have h2 := lt_of_heap HTr.out
           simp; omega), hfar⟩
         have Hg1 : Hid (g < wr.heap.size) := Lib.hid (lt_of_heap HTr.out)
         have HTu := Lib.hid hT3
         have HAu : Hid (Arn yU p b (putW ws (k + 2) OUT)) := Lib.hid (HA3.out.kept hk3 (by simpa using Hgp.out.2.symm) (by simpa using Hgp.out.1.symm))
         have HKu : Hid (Keep [g, b] w yU) := Lib.hid (HKr.out.trans (hk3.sub (T := [g, b]) (fun i hi => by simp at hi; simp [hi])))
         have Hww : Hid (w.heap.size ≤ wr.heap.size) := Lib.hid HKr.out.size
         clear hS hB0 hT0 hT1 hT2 hT3 hk_yS hk_yT hk_yU hk3 hcs4 hfar
         have hor : (r.held || HLD) = HLD := by rw [Hhh.out]; rfl
         by_cases hge : x.l.length ≤ nn
         ·have hgeI : (x.l.length : Int) ≤ (nn : Int) := by omega
          have c13 := Lvr.hi HTu.out 13 7 _ rfl rfl
          have f13 := row_frozen HTu.out 13
          have zg := lt_of_heap HTu.out
          go_wp2_with fail
          clear c13 f13 zg
          refine set_oneR _ g 13 (.int .i64 21) _ _ HTu.out ?_
          intro yV hr hk
          rw [pre_set _ _ 13 7 _ rfl] at hr
          have hT4 := hr
          have hcs9 := HCs.out.1
          rw [List.flatMap_append] at hcs9
          go_end0
          refine ⟨rfl, ⟨A4, Ss.length + SAY.length, c4⟩, ?_, rfl, Hc4.out, Cells.kept hcs9 hk (fun z hz => by have h1 := HCs.out.2 z hz; have h2 := Hg1.out; simp; omega), fun z hz => Nat.le_trans Hww.out (HCs.out.2 z hz), HAu.out.kept hk (by simpa using Hgp.out.2.symm) (by simpa using Hgp.out.1.symm), HKu.out.trans (hk.sub (T := [g, b]) (fun i hi => by simp at hi; simp [hi]))⟩
          (try rw [if_pos hge])
          (try rw [hor])
          exact hT4
         ·have hgeI : ¬ ((x.l.length : Int) ≤ (nn : Int)) := by omega
          have zg := lt_of_heap HTu.out
          go_wp2_with fail
          clear zg
          have hcs9 := HCs.out.1
          rw [List.flatMap_append] at hcs9
          go_end0
          refine ⟨rfl, ⟨A4, Ss.length + SAY.length, c4⟩, ?_, rfl, Hc4.out, hcs9, fun z hz => Nat.le_trans Hww.out (HCs.out.2 z hz), HAu.out, HKu.out⟩
          (try rw [if_neg hge])
          (try rw [hor])
          exact HTu.out
       ·skip
        have b26 : y0.cell? ⟨g, 26, none⟩ = some (.bool r.held) := Lvr.hi hT0 26 20 _ rfl rfl
        rw [Hhh.out] at b26
        have zg := lt_of_heap hT0
        go_simp
        clear b26 zg
        refine hK.out _ _ (trivial) (fun hS => ?_)
        clear hK K
        try simp only [zA, zB, zC, zD, zE]
        refine wpAnyH_ready (rs := [10]) (by kernel_rfl) (by simp) ?_
        refine AllReadyH.cons rfl (fun K hK => ?_) AllReadyH.nil
        go_simp
        refine k_alloc (fun yL hL hb => ?_)
        obtain ⟨gL, HgL⟩ : ∃ x, x = y0.heap.size := ⟨_, rfl⟩
        replace hB0 := below_only hB0 hb
        have hT0 : Lvr yL g p s t i h fA fl.length fc r := row_below HTr.out hB0
        rw [← HgL] at hL ⊢
        clear HgL hb
        refine hK.out _ _ (trivial) (fun hS => ?_)
        clear hK K
        try simp only [zA, zB, zC, zD, zE]
        refine wpAnyH_ready (rs := [11]) (by kernel_rfl) (by simp) ?_
        refine AllReadyH.cons rfl (fun K hK => ?_) AllReadyH.nil
        go_simp
        refine (concat_any gL 2 Ss SAY r.said.a A3 r.said.c c3 _ hL (Cells.below HSr.out hB0) (Cells.below H3r.out hB0) (by have := HSay.out; have := Hs8.out; omega)).mono ?_
        rintro e' yC ⟨vC, rfl, A4, c4, rfl, hc4, hcs4, hfar4, hb⟩
        go_simp
        have hfar : ∀ z, A4 = some z → wr.heap.size ≤ z.block := fun z hz => Nat.le_trans hB0.size (hfar4 z hz)
        replace hB0 := below_only hB0 hb
        have hT0 : Lvr yC g p s t i h fA fl.length fc r := row_below HTr.out hB0
        refine hK.out _ _ (trivial) (fun hS => ?_)
        clear hK K
        try simp only [zA, zB, zC, zD, zE]
        have Hc4 := Lib.hid hc4
        clear hb hfar4 hc4 hL
        refine tk (i := 17) (v := ?v17x173) (some 133) rfl rfl (Or.inl ⟨by kernel_rfl, ?h17x173⟩) ?r17x173
        case h17x173 => (intro w' hSw; go_simp; first | done | (with_reducible rfl))
        try simp only [zA, zB, zC, zD, zE]
        refine tk (i := 18) (v := ?v18x174) (some 134) rfl rfl (Or.inl ⟨by kernel_rfl, ?h18x174⟩) ?r18x174
        case h18x174 => (intro w' hSw; go_simp; first | done | (with_reducible rfl))
        try simp only [zA, zB, zC, zD, zE]
        refine tk (i := 19) (v := ?v19x175) (some 135) rfl rfl (Or.inl ⟨by kernel_rfl, ?h19x175⟩) ?r19x175
        case h19x175 => (intro w' hSw; go_simp; first | done | (with_reducible rfl))
        try simp only [zA, zB, zC, zD, zE]
        refine tk (i := 20) (v := ?v20x176) (some 136) rfl rfl (Or.inl ⟨by kernel_rfl, ?h20x176⟩) ?r20x176
        case h20x176 => (intro w' hSw; go_simp; first | done | (with_reducible rfl))
        try simp only [zA, zB, zC, zD, zE]
        refine tk (i := 21) (v := ?v21x177) (some 137) rfl rfl (Or.inl ⟨by kernel_rfl, ?h21x177⟩) ?r21x177
        case h21x177 => (intro w' hSw; go_simp; first | done | (with_reducible rfl))
        try simp only [zA, zB, zC, zD, zE]
        refine tk (i := 22) (v := ?v22x178) (some 138) rfl rfl (Or.inl ⟨by kernel_rfl, ?h22x178⟩) ?r22x178
        case h22x178 => (intro w' hSw; go_simp; first | done | (with_reducible rfl))
        try simp only [zA, zB, zC, zD, zE]
        refine wpAnyH_ready (rs := [23]) (by kernel_rfl) (by simp) ?_
        refine AllReadyH.cons rfl (fun K hK => ?_) AllReadyH.nil
        refine step_store_one none rfl rfl 3 (.tmp 138) (.tmp 119) rfl g 23 (.int .i64 (nn : Int)) rfl rfl _ _ hT0 (by rw [lvr_size]; decide) infoI64 rfl ?_
        refine set_oneR (P := K _) yC g 23 (.int .i64 (nn : Int)) _ _ hT0 ?_
        intro yS hr hk_yS
        rw [pre_set _ _ 23 17 _ rfl] at hr
        have hT1 : Lvr yS g p s t i h fA fl.length fc { r with op := (nn : Int) } := hr
        clear hr
        refine hK.out _ _ (trivial) (fun hS => ?_)
        clear hK K
        try simp only [zA, zB, zC, zD, zE]
        refine tk (i := 24) (v := ?v24x179) (some 139) rfl rfl (Or.inl ⟨by kernel_rfl, ?h24x179⟩) ?r24x179
        case h24x179 => (intro w' hSw; go_simp; first | done | (with_reducible rfl))
        try simp only [zA, zB, zC, zD, zE]
        refine tk (i := 25) (v := ?v25x180) (some 140) rfl rfl (Or.inl ⟨by kernel_rfl, ?h25x180⟩) ?r25x180
        case h25x180 => (intro w' hSw; go_simp; first | done | (with_reducible rfl))
        try simp only [zA, zB, zC, zD, zE]
        refine tk (i := 26) (v := ?v26x181) (some 141) rfl rfl (Or.inl ⟨by kernel_rfl, ?h26x181⟩) ?r26x181
        case h26x181 => (intro w' hSw; go_simp; first | done | (with_reducible rfl))
        try simp only [zA, zB, zC, zD, zE]
        refine wpAnyH_ready (rs := [27]) (by kernel_rfl) (by simp) ?_
        refine AllReadyH.cons rfl (fun K hK => ?_) AllReadyH.nil
        refine step_store_one none rfl rfl 38 (.tmp 141) (.tmp 127) rfl g 24 (.slice A4 (Ss.length + SAY.length) c4) rfl rfl _ _ hT1 (by rw [lvr_size]; decide) infoInts rfl ?_
        refine set_oneR (P := K _) yS g 24 (.slice A4 (Ss.length + SAY.length) c4) _ _ hT1 ?_
        intro yT hr hk_yT
        rw [show Value.slice A4 (Ss.length + SAY.length) c4 = (⟨A4, Ss.length + SAY.length, c4⟩ : Sl).v from rfl, pre_set _ _ 24 18 _ rfl] at hr
        have hT2 : Lvr yT g p s t i h fA fl.length fc { r with op := (nn : Int), said := (⟨A4, Ss.length + SAY.length, c4⟩ : Sl) } := hr
        clear hr
        refine hK.out _ _ (trivial) (fun hS => ?_)
        clear hK K
        try simp only [zA, zB, zC, zD, zE]
        refine tk (i := 28) (v := ?v28x182) (some 142) rfl rfl (Or.inl ⟨by kernel_rfl, ?h28x182⟩) ?r28x182
        case h28x182 => (intro w' hSw; go_simp; first | done | (with_reducible rfl))
        try simp only [zA, zB, zC, zD, zE]
        refine tk (i := 29) (v := ?v29x183) (some 143) rfl rfl (Or.inl ⟨by kernel_rfl, ?h29x183⟩) ?r29x183
        case h29x183 => (intro w' hSw; go_simp; first | done | (with_reducible rfl))
        try simp only [zA, zB, zC, zD, zE]
        refine tk (i := 30) (v := ?v30x184) (some 144) rfl rfl (Or.inl ⟨by kernel_rfl, ?h30x184⟩) ?r30x184
        case h30x184 => (intro w' hSw; go_simp; first | done | (with_reducible rfl))
        try simp only [zA, zB, zC, zD, zE]
        refine wpAnyH_ready (rs := [31]) (by kernel_rfl) (by simp) ?_
        refine AllReadyH.cons rfl (fun K hK => ?_) AllReadyH.nil
        refine step_store_one none rfl rfl 4 (.tmp 144) (.tmp 135) rfl g 26 (.bool HLD) rfl rfl _ _ hT2 (by rw [lvr_size]; decide) infoBool1 rfl ?_
        refine set_oneR (P := K _) yT g 26 (.bool HLD) _ _ hT2 ?_
        intro yU hr hk_yU
        rw [pre_set _ _ 26 20 _ rfl] at hr
        have hT3 : Lvr yU g p s t i h fA fl.length fc { r with op := (nn : Int), said := (⟨A4, Ss.length + SAY.length, c4⟩ : Sl), held := HLD } := hr
        clear hr
        refine hK.out _ _ (trivial) (fun hS => ?_)
        clear hK K
        try simp only [zA, zB, zC, zD, zE]
        refine wpAnyH_done (by kernel_rfl) ?_ _
        have hk3 : Keep [g] wr yU := (((keep_below hB0 [g]).trans hk_yS).trans hk_yT).trans hk_yU
        have HCs : Hid (Cells yU A4 ((Ss ++ SAY).flatMap nCells) ∧ ∀ z, A4 = some z → wr.heap.size ≤ z.block) := Lib.hid ⟨Cells.kept hcs4 ((hk_yS.trans hk_yT).trans hk_yU) (fun a ha => by
          have h1 := hfar a ha
          have h2 := lt_of_heap HTr.out
          simp; omega), hfar⟩
        have Hg1 : Hid (g < wr.heap.size) := Lib.hid (lt_of_heap HTr.out)
        have HTu := Lib.hid hT3
        have HAu : Hid (Arn yU p b (putW ws (k + 2) OUT)) := Lib.hid (HA3.out.kept hk3 (by simpa using Hgp.out.2.symm) (by simpa using Hgp.out.1.symm))
        have HKu : Hid (Keep [g, b] w yU) := Lib.hid (HKr.out.trans (hk3.sub (T := [g, b]) (fun i hi => by simp at hi; simp [hi])))
        have Hww : Hid (w.heap.size ≤ wr.heap.size) := Lib.hid HKr.out.size
        clear hS hB0 hT0 hT1 hT2 hT3 hk_yS hk_yT hk_yU hk3 hcs4 hfar
        have hor : (r.held || HLD) = HLD := by rw [Hhh.out]; rfl
        by_cases hge : x.l.length ≤ nn
        ·have hgeI : (x.l.length : Int) ≤ (nn : Int) := by omega
         have c13 := Lvr.hi HTu.out 13 7 _ rfl rfl
         have f13 := row_frozen HTu.out 13
         have zg := lt_of_heap HTu.out
         go_wp2_with fail
         clear c13 f13 zg
         refine set_oneR _ g 13 (.int .i64 21) _ _ HTu.out ?_
         intro yV hr hk
         rw [pre_set _ _ 13 7 _ rfl] at hr
         have hT4 := hr
         have hcs9 := HCs.out.1
         rw [List.flatMap_append] at hcs9
         go_end0
         refine ⟨rfl, ⟨A4, Ss.length + SAY.length, c4⟩, ?_, rfl, Hc4.out, Cells.kept hcs9 hk (fun z hz => by have h1 := HCs.out.2 z hz; have h2 := Hg1.out; simp; omega), fun z hz => Nat.le_trans Hww.out (HCs.out.2 z hz), HAu.out.kept hk (by simpa using Hgp.out.2.symm) (by simpa using Hgp.out.1.symm), HKu.out.trans (hk.sub (T := [g, b]) (fun i hi => by simp at hi; simp [hi]))⟩
         (try rw [if_pos hge])
         (try rw [hor])
         exact hT4
        ·have hgeI : ¬ ((x.l.length : Int) ≤ (nn : Int)) := by omega
         have zg := lt_of_heap HTu.out
         go_wp2_with fail
         clear zg
         have hcs9 := HCs.out.1
         rw [List.flatMap_append] at hcs9
         go_end0
         refine ⟨rfl, ⟨A4, Ss.length + SAY.length, c4⟩, ?_, rfl, Hc4.out, hcs9, fun z hz => Nat.le_trans Hww.out (HCs.out.2 z hz), HAu.out, HKu.out⟩
         (try rw [if_neg hge])
         (try rw [hor])
         exact HTu.out
      ·skip
       have b26 : y0.cell? ⟨g, 26, none⟩ = some (.bool r.held) := Lvr.hi hT0 26 20 _ rfl rfl
       rw [Hhh.out] at b26
       have zg := lt_of_heap hT0
       go_simp
       clear b26 zg
       refine hK.out _ _ (trivial) (fun hS => ?_)
       clear hK K
       try simp only [zA, zB, zC, zD, zE]
       refine wpAnyH_ready (rs := [8]) (by kernel_rfl) (by simp) ?_
       refine AllReadyH.cons rfl (fun K hK => ?_) AllReadyH.nil
       have b24 : y0.cell? ⟨g, 24, none⟩ = some r.said.v := Lvr.hi hT0 24 18 _ rfl rfl
       rw [show r.said.v = .slice r.said.a Ss.length r.said.c from by rw [← Hsn.out]] at b24
       have zg := lt_of_heap hT0
       go_simp
       clear b24 zg
       refine hK.out _ _ (trivial) (fun hS => ?_)
       clear hK K
       try simp only [zA, zB, zC, zD, zE]
       refine wpAnyH_ready (rs := [10]) (by kernel_rfl) (by simp) ?_
       refine AllReadyH.cons rfl (fun K hK => ?_) AllReadyH.nil
       go_simp
       refine k_alloc (fun yL hL hb => ?_)
       obtain ⟨gL, HgL⟩ : ∃ x, x = y0.heap.size := ⟨_, rfl⟩
       replace hB0 := below_only hB0 hb
       have hT0 : Lvr yL g p s t i h fA fl.length fc r := row_below HTr.out hB0
       rw [← HgL] at hL ⊢
       clear HgL hb
       refine hK.out _ _ (trivial) (fun hS => ?_)
       clear hK K
       try simp only [zA, zB, zC, zD, zE]
       refine wpAnyH_ready (rs := [11]) (by kernel_rfl) (by simp) ?_
       refine AllReadyH.cons rfl (fun K hK => ?_) AllReadyH.nil
       go_simp
       refine (concat_any gL 2 Ss SAY r.said.a A3 r.said.c c3 _ hL (Cells.below HSr.out hB0) (Cells.below H3r.out hB0) (by have := HSay.out; have := Hs8.out; omega)).mono ?_
       rintro e' yC ⟨vC, rfl, A4, c4, rfl, hc4, hcs4, hfar4, hb⟩
       go_simp
       have hfar : ∀ z, A4 = some z → wr.heap.size ≤ z.block := fun z hz => Nat.le_trans hB0.size (hfar4 z hz)
       replace hB0 := below_only hB0 hb
       have hT0 : Lvr yC g p s t i h fA fl.length fc r := row_below HTr.out hB0
       refine hK.out _ _ (trivial) (fun hS => ?_)
       clear hK K
       try simp only [zA, zB, zC, zD, zE]
       have Hc4 := Lib.hid hc4
       clear hb hfar4 hc4 hL
       refine tk (i := 17) (v := ?v17x185) (some 133) rfl rfl (Or.inl ⟨by kernel_rfl, ?h17x185⟩) ?r17x185
       case h17x185 => (intro w' hSw; go_simp; first | done | (with_reducible rfl))
       try simp only [zA, zB, zC, zD, zE]
       refine tk (i := 18) (v := ?v18x186) (some 134) rfl rfl (Or.inl ⟨by kernel_rfl, ?h18x186⟩) ?r18x186
       case h18x186 => (intro w' hSw; go_simp; first | done | (with_reducible rfl))
       try simp only [zA, zB, zC, zD, zE]
       refine tk (i := 19) (v := ?v19x187) (some 135) rfl rfl (Or.inl ⟨by kernel_rfl, ?h19x187⟩) ?r19x187
       case h19x187 => (intro w' hSw; go_simp; first | done | (with_reducible rfl))
       try simp only [zA, zB, zC, zD, zE]
       refine tk (i := 20) (v := ?v20x188) (some 136) rfl rfl (Or.inl ⟨by kernel_rfl, ?h20x188⟩) ?r20x188
       case h20x188 => (intro w' hSw; go_simp; first | done | (with_reducible rfl))
       try simp only [zA, zB, zC, zD, zE]
       refine tk (i := 21) (v := ?v21x189) (some 137) rfl rfl (Or.inl ⟨by kernel_rfl, ?h21x189⟩) ?r21x189
       case h21x189 => (intro w' hSw; go_simp; first | done | (with_reducible rfl))
       try simp only [zA, zB, zC, zD, zE]
       refine tk (i := 22) (v := ?v22x190) (some 138) rfl rfl (Or.inl ⟨by kernel_rfl, ?h22x190⟩) ?r22x190
       case h22x190 => (intro w' hSw; go_simp; first | done | (with_reducible rfl))
       try simp only [zA, zB, zC, zD, zE]
       refine wpAnyH_ready (rs := [23]) (by kernel_rfl) (by simp) ?_
       refine AllReadyH.cons rfl (fun K hK => ?_) AllReadyH.nil
       refine step_store_one none rfl rfl 3 (.tmp 138) (.tmp 119) rfl g 23 (.int .i64 (nn : Int)) rfl rfl _ _ hT0 (by rw [lvr_size]; decide) infoI64 rfl ?_
       refine set_oneR (P := K _) yC g 23 (.int .i64 (nn : Int)) _ _ hT0 ?_
       intro yS hr hk_yS
       rw [pre_set _ _ 23 17 _ rfl] at hr
       have hT1 : Lvr yS g p s t i h fA fl.length fc { r with op := (nn : Int) } := hr
       clear hr
       refine hK.out _ _ (trivial) (fun hS => ?_)
       clear hK K
       try simp only [zA, zB, zC, zD, zE]
       refine tk (i := 24) (v := ?v24x191) (some 139) rfl rfl (Or.inl ⟨by kernel_rfl, ?h24x191⟩) ?r24x191
       case h24x191 => (intro w' hSw; go_simp; first | done | (with_reducible rfl))
       try simp only [zA, zB, zC, zD, zE]
       refine tk (i := 25) (v := ?v25x192) (some 140) rfl rfl (Or.inl ⟨by kernel_rfl, ?h25x192⟩) ?r25x192
       case h25x192 => (intro w' hSw; go_simp; first | done | (with_reducible rfl))
       try simp only [zA, zB, zC, zD, zE]
       refine tk (i := 26) (v := ?v26x193) (some 141) rfl rfl (Or.inl ⟨by kernel_rfl, ?h26x193⟩) ?r26x193
       case h26x193 => (intro w' hSw; go_simp; first | done | (with_reducible rfl))
       try simp only [zA, zB, zC, zD, zE]
       refine wpAnyH_ready (rs := [27]) (by kernel_rfl) (by simp) ?_
       refine AllReadyH.cons rfl (fun K hK => ?_) AllReadyH.nil
       refine step_store_one none rfl rfl 38 (.tmp 141) (.tmp 127) rfl g 24 (.slice A4 (Ss.length + SAY.length) c4) rfl rfl _ _ hT1 (by rw [lvr_size]; decide) infoInts rfl ?_
       refine set_oneR (P := K _) yS g 24 (.slice A4 (Ss.length + SAY.length) c4) _ _ hT1 ?_
       intro yT hr hk_yT
       rw [show Value.slice A4 (Ss.length + SAY.length) c4 = (⟨A4, Ss.length + SAY.length, c4⟩ : Sl).v from rfl, pre_set _ _ 24 18 _ rfl] at hr
       have hT2 : Lvr yT g p s t i h fA fl.length fc { r with op := (nn : Int), said := (⟨A4, Ss.length + SAY.length, c4⟩ : Sl) } := hr
       clear hr
       refine hK.out _ _ (trivial) (fun hS => ?_)
       clear hK K
       try simp only [zA, zB, zC, zD, zE]
       refine tk (i := 28) (v := ?v28x194) (some 142) rfl rfl (Or.inl ⟨by kernel_rfl, ?h28x194⟩) ?r28x194
       case h28x194 => (intro w' hSw; go_simp; first | done | (with_reducible rfl))
       try simp only [zA, zB, zC, zD, zE]
       refine tk (i := 29) (v := ?v29x195) (some 143) rfl rfl (Or.inl ⟨by kernel_rfl, ?h29x195⟩) ?r29x195
       case h29x195 => (intro w' hSw; go_simp; first | done | (with_reducible rfl))
       try simp only [zA, zB, zC, zD, zE]
       refine tk (i := 30) (v := ?v30x196) (some 144) rfl rfl (Or.inl ⟨by kernel_rfl, ?h30x196⟩) ?r30x196
       case h30x196 => (intro w' hSw; go_simp; first | done | (with_reducible rfl))
       try simp only [zA, zB, zC, zD, zE]
       refine wpAnyH_ready (rs := [31]) (by kernel_rfl) (by simp) ?_
       refine AllReadyH.cons rfl (fun K hK => ?_) AllReadyH.nil
       refine step_store_one none rfl rfl 4 (.tmp 144) (.tmp 135) rfl g 26 (.bool HLD) rfl rfl _ _ hT2 (by rw [lvr_size]; decide) infoBool1 rfl ?_
       refine set_oneR (P := K _) yT g 26 (.bool HLD) _ _ hT2 ?_
       intro yU hr hk_yU
       rw [pre_set _ _ 26 20 _ rfl] at hr
       have hT3 : Lvr yU g p s t i h fA fl.length fc { r with op := (nn : Int), said := (⟨A4, Ss.length + SAY.length, c4⟩ : Sl), held := HLD } := hr
       clear hr
       refine hK.out _ _ (trivial) (fun hS => ?_)
       clear hK K
       try simp only [zA, zB, zC, zD, zE]
       refine wpAnyH_done (by kernel_rfl) ?_ _
       have hk3 : Keep [g] wr yU := (((keep_below hB0 [g]).trans hk_yS).trans hk_yT).trans hk_yU
       have HCs : Hid (Cells yU A4 ((Ss ++ SAY).flatMap nCells) ∧ ∀ z, A4 = some z → wr.heap.size ≤ z.block) := Lib.hid ⟨Cells.kept hcs4 ((hk_yS.trans hk_yT).trans hk_yU) (fun a ha => by
         have h1 := hfar a ha
         have h2 := lt_of_heap HTr.out
         simp; omega), hfar⟩
       have Hg1 : Hid (g < wr.heap.size) := Lib.hid (lt_of_heap HTr.out)
       have HTu := Lib.hid hT3
       have HAu : Hid (Arn yU p b (putW ws (k + 2) OUT)) := Lib.hid (HA3.out.kept hk3 (by simpa using Hgp.out.2.symm) (by simpa using Hgp.out.1.symm))
       have HKu : Hid (Keep [g, b] w yU) := Lib.hid (HKr.out.trans (hk3.sub (T := [g, b]) (fun i hi => by simp at hi; simp [hi])))
       have Hww : Hid (w.heap.size ≤ wr.heap.size) := Lib.hid HKr.out.size
       clear hS hB0 hT0 hT1 hT2 hT3 hk_yS hk_yT hk_yU hk3 hcs4 hfar
       have hor : (r.held || HLD) = HLD := by rw [Hhh.out]; rfl
       by_cases hge : x.l.length ≤ nn
       ·have hgeI : (x.l.length : Int) ≤ (nn : Int) := by omega
        have c13 := Lvr.hi HTu.out 13 7 _ rfl rfl
        have f13 := row_frozen HTu.out 13
        have zg := lt_of_heap HTu.out
        go_wp2_with fail
        clear c13 f13 zg
        refine set_oneR _ g 13 (.int .i64 21) _ _ HTu.out ?_
        intro yV hr hk
        rw [pre_set _ _ 13 7 _ rfl] at hr
        have hT4 := hr
        have hcs9 := HCs.out.1
        rw [List.flatMap_append] at hcs9
        go_end0
        refine ⟨rfl, ⟨A4, Ss.length + SAY.length, c4⟩, ?_, rfl, Hc4.out, Cells.kept hcs9 hk (fun z hz => by have h1 := HCs.out.2 z hz; have h2 := Hg1.out; simp; omega), fun z hz => Nat.le_trans Hww.out (HCs.out.2 z hz), HAu.out.kept hk (by simpa using Hgp.out.2.symm) (by simpa using Hgp.out.1.symm), HKu.out.trans (hk.sub (T := [g, b]) (fun i hi => by simp at hi; simp [hi]))⟩
        (try rw [if_pos hge])
        (try rw [hor])
        exact hT4
       ·have hgeI : ¬ ((x.l.length : Int) ≤ (nn : Int)) := by omega
        have zg := lt_of_heap HTu.out
        go_wp2_with fail
        clear zg
        have hcs9 := HCs.out.1
        rw [List.flatMap_append] at hcs9
        go_end0
        refine ⟨rfl, ⟨A4, Ss.length + SAY.length, c4⟩, ?_, rfl, Hc4.out, hcs9, fun z hz => Nat.le_trans Hww.out (HCs.out.2 z hz), HAu.out, HKu.out⟩
        (try rw [if_neg hge])
        (try rw [hor])
        exact HTu.out
end Go.Proofs.YtbijaloeilnjoaaGreat
