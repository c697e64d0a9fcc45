/- Layer 18: the walks of package fin's readers: Of, has. Layer 18: the walks of package fin's kinds of ops. Layer 18: the walk of penfoldref10.Fit: programs that may be. -/
import Derived.Test.YtbijaloeilnjoaaGreatLP
import Derived.Test.YtbijaloeilnjoaaGreatTP
import Derived.BigQuiet
import Derived.Test.YtbijaloeilnjoaaGreatFR
namespace Go.Proofs.YtbijaloeilnjoaaGreat
open Go.RowKit
set_option linter.unusedVariables false
set_option linter.unusedSimpArgs false

abbrev foCells (o : Fo) : List Value := [.int .u8 o.op, .int .i64 o.a, .int .i64 o.b]
abbrev uCells (x : Int) : List Value := [.int .u64 x]
/-- a finalizer in memory: where it lies, how much room there is, and what it is -/
structure FSl where
 a : Option Addr
 c : Nat
 l : List Fo
abbrev fslCells (x : FSl) : List Value := [.slice x.a x.l.length x.c]
structure FinsAt (w : World) (A : Option Addr) (fl : List FSl) : Prop where
 row : Cells w A (fl.flatMap fslCells)
 ops : ∀ x ∈ fl, Cells w x.a (x.l.flatMap foCells)
abbrev fsL (fl : List FSl) : List (List Fo) := fl.map (·.l)
theorem FinsAt.below {w w' : World} {A : Option Addr} {fl : List FSl} (h : FinsAt w A fl) (hb : Below w.heap.size w w') : FinsAt w' A fl := ⟨Cells.below h.row hb, fun x hx => Cells.below (h.ops x hx) hb⟩
theorem FinsAt.at_ {w : World} {A : Option Addr} {fl : List FSl} (h : FinsAt w A fl) (h0 : 0 < fl.length) : ∃ b off, A = some ⟨b, off, none⟩ ∧ b < w.heap.size ∧ ∀ k x, fl[k]? = some x → w.cell? ⟨b, off + k, none⟩ = some (.slice x.a x.l.length x.c) := by
 obtain ⟨b, off, e, hb, hc⟩ := Cells.at_ h.row (by rw [flat_length fslCells 1 (fun _ => rfl)]; omega)
 refine ⟨b, off, e, hb, fun k x hk => ?_⟩
 have := hc (k * 1 + 0) (.slice x.a x.l.length x.c) (by rw [flat_get fslCells 1 (fun _ => rfl) fl k 0 (by omega), hk]; rfl)
 simpa using this
theorem u_at {w : World} {A : Option Addr} {l : List Int} (h : Cells w A (l.flatMap uCells)) (h0 : 0 < l.length) : ∃ b off, A = some ⟨b, off, none⟩ ∧ b < w.heap.size ∧ ∀ k x, l[k]? = some x → w.cell? ⟨b, off + k, none⟩ = some (.int .u64 x) := by
 obtain ⟨b, off, e, hb, hc⟩ := Cells.at_ h (by rw [flat_length uCells 1 (fun _ => rfl)]; omega)
 refine ⟨b, off, e, hb, fun k x hk => ?_⟩
 have := hc (k * 1 + 0) (.int .u64 x) (by rw [flat_get uCells 1 (fun _ => rfl) l k 0 (by omega), hk]; rfl)
 simpa using this
theorem fo_at {w : World} {A : Option Addr} {l : List Fo} (h : Cells w A (l.flatMap foCells)) (h0 : 0 < l.length) : ∃ b off, A = some ⟨b, off, none⟩ ∧ b < w.heap.size ∧ ∀ k x, l[k]? = some x → w.cell? ⟨b, off + k * 3, none⟩ = some (.int .u8 x.op) ∧ w.cell? ⟨b, off + k * 3 + 1, none⟩ = some (.int .i64 x.a) ∧ w.cell? ⟨b, off + k * 3 + 2, none⟩ = some (.int .i64 x.b) := by
 obtain ⟨b, off, e, hb, hc⟩ := Cells.at_ h (by rw [flat_length foCells 3 (fun _ => rfl)]; omega)
 refine ⟨b, off, e, hb, fun k x hk => ?_⟩
 have g := fun j (hj : j < 3) v (hv : (foCells x)[j]? = some v) => hc (k * 3 + j) v (by rw [flat_get foCells 3 (fun _ => rfl) l k j hj, hk]; exact hv)
 exact ⟨g 0 (by omega) _ rfl, by have := g 1 (by omega) _ rfl; rwa [← Nat.add_assoc] at this, by have := g 2 (by omega) _ rfl; rwa [← Nat.add_assoc] at this⟩

/-- the program of a tag: where it lies -/
def finOf (fl : List FSl) (tg : Nat) : FSl := fl[tg]?.getD ⟨none, 0, []⟩
theorem finOf_l (fl : List FSl) (tg : Nat) : (finOf fl tg).l = fsOf (fsL fl) tg := by
 unfold finOf fsOf fsL
 rw [List.getElem?_map]
 cases fl[tg]? <;> rfl
theorem FinsAt.of {w : World} {A : Option Addr} {fl : List FSl} (h : FinsAt w A fl) (tg : Nat) : Cells w (finOf fl tg).a ((finOf fl tg).l.flatMap foCells) := by
 unfold finOf
 cases e : fl[tg]? with
 | none => exact Cells.nil
 | some x => exact h.ops x (List.mem_of_getElem? e)
set_option maxRecDepth 100000 in
set_option maxHeartbeats 2000000 in
theorem finOf_any (A : Option Addr) (c : Nat) (fl : List FSl) (tg : Nat) (w : World) (h : FinsAt w A fl) (hl : fl.length ≤ 8) (ht : tg < 8) :
  Calls Tryz.prog 129 #[.slice A fl.length c, .int .i64 tg] w fun r w' => r = .returned (.slice (finOf fl tg).a (finOf fl tg).l.length (finOf fl tg).c) ∧ w' = w := by
 have hlI : (fl.length : Int) ≤ 8 := by omega
 have hl0 : (0 : Int) ≤ (fl.length : Int) := by omega
 have htI : (tg : Int) < 8 := by omega
 have ht0 : (0 : Int) ≤ (tg : Int) := by omega
 have HF := Lib.hid h
 clear h
 go_enter Tryz.func129, Tryz.ntmps129
 go_wp2_with fail
 refine (within_any _ _ _ _).mono ?_
 rintro r w1 ⟨rfl, rfl⟩
 by_cases hlt : tg < fl.length
 ·obtain ⟨x, hx⟩ : ∃ x, fl[tg]? = some x := ⟨_, List.getElem?_eq_getElem hlt⟩
  obtain ⟨b, off, rfl, hbl, hc⟩ := HF.out.at_ (by omega)
  have q0 := hc tg x hx
  have e : finOf fl tg = x := by unfold finOf; rw [hx]; rfl
  have HE := Lib.hid e
  rw [show inB (tg : Int) 0 ((fl.length : Int) - 1) = true from decide_eq_true (by omega)]
  have hltI : (tg : Int) < (fl.length : Int) := by omega
  clear hc hx e
  go_wp2_with fail
  go_ret
  exact ⟨by rw [HE.out]; rfl, rfl⟩
 ·have e : finOf fl tg = ⟨none, 0, []⟩ := by unfold finOf; rw [List.getElem?_eq_none (by omega)]; rfl
  have HE := Lib.hid e
  rw [show inB (tg : Int) 0 ((fl.length : Int) - 1) = false from decide_eq_false (by omega)]
  clear e hlt
  go_wp2_with fail
  go_ret
  exact ⟨by rw [HE.out]; rfl, rfl⟩

/-- the state of an op in memory -/
abbrev staCells (A : Option Addr) (n c : Nat) (B : Option Addr) (m d : Nat) (h : Bool) (k : Int) : Array Value := #[.slice A n c, .slice B m d, .bool h, .int .i64 k]
abbrev Sta (w : World) (g : Nat) (A : Option Addr) (n c : Nat) (B : Option Addr) (m d : Nat) (h : Bool) (k : Int) : Prop := w.heap[g]? = some (.cells (staCells A n c B m d h k) 198 (0, 0))
section
variable (g n c : Nat) (A : Option Addr) (B : Option Addr) (m d : Nat) (h : Bool) (k : Int)
set_option maxRecDepth 100000 in
set_option maxHeartbeats 2000000 in
theorem has1_any (x : Int) (gb : Nat) (w : World) (hb : w.heap[gb]? = some (.cells #[.pointer (some ⟨g, 0, none⟩)] 196 (0, 0))) (hg : Sta w g A n c B m d h k) (hn : n ≤ 6) :
  Calls Tryz.prog 161 #[.int .i64 x, .pointer (some ⟨gb, 0, none⟩)] w fun r w' => r = .returned (.bool (!inB x 0 ((n : Int) - 1))) ∧ Below w.heap.size w w' := by
 have hnI : (n : Int) ≤ 6 := by omega
 have hn0 : (0 : Int) ≤ (n : Int) := by omega
 obtain ⟨y0, _⟩ := box1 hb
 obtain ⟨x0, x1, x2, x3, _⟩ := box4 hg
 have z1 := lt_of_heap hb
 have z2 := lt_of_heap hg
 clear hb hg
 go_enter Tryz.func161, Tryz.ntmps161
 go_wp2_with fail
 refine (within_any _ _ _ _).mono ?_
 rintro r w1 ⟨rfl, rfl⟩
 go_wp2_with fail
 go_ret
 exact ⟨rfl, by go_grown⟩
def outB (n : Nat) (x : Int) : Bool := !inB x 0 ((n : Int) - 1)
def idxO (n : Nat) (l : List Int) : Int := match l.findIdx? (outB n) with | none => -1 | some i => (i : Nat)
theorem idxO_all (n : Nat) (l : List Int) : decide (idxO n l ≥ 0) = !(l.all fun x => inB x 0 ((n : Int) - 1)) := by
 unfold idxO
 cases h : l.findIdx? (outB n) with
 | none =>
  have := findIdx_none h
  rw [show (l.all fun x => inB x 0 ((n : Int) - 1)) = true from List.all_eq_true.2 fun x hx => by simpa [outB] using this x hx]
  rfl
 | some i =>
  obtain ⟨x, h1, _, h2, _⟩ := findIdx_some h
  have hm := List.mem_of_getElem? h1
  have : (l.all fun x => inB x 0 ((n : Int) - 1)) = false := by
   rw [List.all_eq_false]
   exact ⟨x, hm, by simpa [outB] using h2⟩
  rw [this]
  simp
set_option maxRecDepth 100000 in
set_option maxHeartbeats 2000000 in
theorem idxo_any (L : Option Addr) (lc gb : Nat) (l : List Int) (w : World) (hl : l.length ≤ 8) (he : Cells w L (l.flatMap nCells)) (hb : w.heap[gb]? = some (.cells #[.pointer (some ⟨g, 0, none⟩)] 196 (0, 0))) (hg : Sta w g A n c B m d h k) (hn : n ≤ 6) :
  Calls Tryz.prog 163 #[.slice L l.length lc, .func (.func 161) #[] #[.pointer (some ⟨gb, 0, none⟩)]] w fun r w' => r = .returned (.int .i64 (idxO n l)) ∧ Below w.heap.size w w' := by
 have HR := Lib.hid he
 have HB := Lib.hid hb
 have HG := Lib.hid hg
 clear he hb hg
 go_enter Tryz.func163, Tryz.ntmps163
 go_wp2
 go_loopw [5, 8] (fun _ t wr => ∃ k : Nat, k ≤ l.length ∧ t = .int .i64 k ∧ (∀ j y, j < k → l[j]? = some y → outB n y = false) ∧ Below w.heap.size w wr)
  (fun _ t _ => l.length - (intOf t).toNat)
 case atStart => exact ⟨0, Nat.zero_le _, rfl, by omega, Below.refl _ _⟩
 case round =>
  obtain ⟨k2, hk, rfl, hnn, hb⟩ := hrel
  have Hn := Lib.hid hnn
  clear hnn
  by_cases hlt : k2 < l.length
  ·obtain ⟨s, hv⟩ : ∃ s, l[k2]? = some s := ⟨_, List.getElem?_eq_getElem hlt⟩
   obtain ⟨b, off, rfl, hbl, hc⟩ := n_at (Cells.below HR.out hb) (by omega)
   have q0 := hc k2 s hv
   have Hv := Lib.hid hv
   have HC := fun w' (hb1 : Below w.heap.size w w') => Lib.hid (has1_any g n c A B m d h k s gb w' (row_below HB.out hb1) (row_below HG.out hb1) hn)
   have HBl := Lib.hid hb
   clear hv hc
   cases hp : outB n s with
   | true =>
    have HP := Lib.hid hp
    go_wp2_with fail
    refine (HC _ (by first | exact HBl.out | exact below_drewN HBl.out _)).out.mono ?_
    rintro e w1 ⟨rfl, hb1⟩
    rw [show (!inB s 0 ((n : Int) - 1)) = true from HP.out]
    clear HC
    go_wp2_with fail
    go_ret
    exact ⟨by rw [show idxO n l = k2 by unfold idxO; rw [findIdx_mk Hv.out HP.out Hn.out]]; first | done | rfl, below_only HBl.out hb1⟩
   | false =>
    have HP := Lib.hid hp
    go_wp2_with fail
    refine (HC _ (by first | exact HBl.out | exact below_drewN HBl.out _)).out.mono ?_
    rintro e w1 ⟨rfl, hb1⟩
    rw [show (!inB s 0 ((n : Int) - 1)) = false from HP.out]
    clear HC
    go_wp2_with fail
    go_roundw
    case rel =>
     refine ⟨k2 + 1, hlt, by go_num, fun j y hj hy => ?_, below_only HBl.out hb1⟩
     rcases Nat.lt_or_ge j k2 with h | h
     ·exact Hn.out j y h hy
     ·obtain rfl : j = k2 := by omega
      rw [Hv.out] at hy
      injection hy with hy
      subst hy
      exact HP.out
    case measure => simp [intOf]; omega
  ·go_wp2
   go_ret
   refine ⟨?_, hb⟩
   have : idxO n l = -1 := by
    unfold idxO
    cases h : l.findIdx? (outB n) with
    | none => rfl
    | some i =>
     obtain ⟨y, h1, h2, h3, _⟩ := findIdx_some h
     have := Hn.out i y (by omega) h1
     rw [h3] at this
     cases this
   rw [this]
   first | done | rfl
set_option maxRecDepth 100000 in
set_option maxHeartbeats 2000000 in
theorem conto_any (L : Option Addr) (lc gb : Nat) (l : List Int) (w : World) (hl : l.length ≤ 8) (he : Cells w L (l.flatMap nCells)) (hb : w.heap[gb]? = some (.cells #[.pointer (some ⟨g, 0, none⟩)] 196 (0, 0))) (hg : Sta w g A n c B m d h k) (hn : n ≤ 6) :
  Calls Tryz.prog 160 #[.slice L l.length lc, .func (.func 161) #[] #[.pointer (some ⟨gb, 0, none⟩)]] w fun r w' => r = .returned (.bool (!(l.all fun x => inB x 0 ((n : Int) - 1)))) ∧ Below w.heap.size w w' := by
 have HI := Lib.hid (idxo_any g n c A B m d h k L lc gb l w hl he hb hg hn)
 have hd := idxO_all n l
 have hd2 : decide (0 ≤ idxO n l) = !(l.all fun x => inB x 0 ((n : Int) - 1)) := hd
 clear he hb hg
 go_enter Tryz.func160, Tryz.ntmps160
 go_wp2_with fail
 refine HI.out.mono ?_
 rintro r w1 ⟨rfl, hb⟩
 go_wp2_with fail
 go_ret
 exact ⟨by first | rfl | rw [hd] | rw [hd2], hb⟩
set_option maxRecDepth 100000 in
set_option maxHeartbeats 2000000 in
theorem has_any (L : Option Addr) (lc : Nat) (l : List Int) (w : World) (hl : l.length ≤ 8) (he : Cells w L (l.flatMap nCells)) (hg : Sta w g A n c B m d h k) (hn : n ≤ 6) :
  Calls Tryz.prog 155 #[.pointer (some ⟨g, 0, none⟩), .slice L l.length lc] w fun r w' => r = .returned (.bool (l.all fun x => inB x 0 ((n : Int) - 1))) ∧ Below w.heap.size w w' := by
 have HE := Lib.hid he
 have HG := Lib.hid hg
 clear he hg
 go_enter Tryz.func155, Tryz.ntmps155
 go_upto_region 1 with fail
 refine one_row w _ _ ?_
 intro w1 hr hb
 have HR := Lib.hid hr
 have HB := Lib.hid hb
 clear hr hb
 go_wp2_with fail
 refine (conto_any g n c A B m d h k L lc w.heap.size l _ hl (Cells.below HE.out HB.out) HR.out (row_below HG.out HB.out) hn).mono ?_
 rintro r w2 ⟨rfl, hb⟩
 go_wp2_with fail
 go_ret
 exact ⟨by simp, below_only HB.out hb⟩
end
end Go.Proofs.YtbijaloeilnjoaaGreat

namespace Go.Proofs.YtbijaloeilnjoaaGreat
open Go.RowKit
set_option linter.unusedVariables false
set_option linter.unusedSimpArgs false

/-- slots in a block of their own -/
structure SlB (w : World) (A : Option Addr) (sl : List Int) (bs : Nat) (cur : Array Value) : Prop where
 a : A = some ⟨bs, 0, none⟩
 row : w.heap[bs]? = some (.cells cur 36 (0, 0))
 at_ : ∀ (k : Nat) x, sl[k]? = some x → cur[k]? = some (.int .u64 x)
def SlOk (w : World) (g : Nat) (A : Option Addr) (sl : List Int) : Prop := sl = [] ∨ ∃ bs cur, SlB w A sl bs cur ∧ bs ≠ g
theorem SlOk.cells {w : World} {g : Nat} {A : Option Addr} {sl : List Int} (h : SlOk w g A sl) : Cells w A (sl.flatMap uCells) := by
 rcases h with rfl | ⟨bs, cur, h, _⟩
 ·exact Cells.nil
 ·intro h0
  refine ⟨bs, 0, h.a, fun j v hv => ?_⟩
  have hj : j < sl.length := by
   have := (List.getElem?_eq_some_iff.1 hv).1
   rw [flat_length uCells 1 (fun _ => rfl)] at this
   omega
  have h1 := flat_get uCells 1 (fun _ => rfl) sl j 0 (by omega)
  rw [Nat.mul_one, Nat.add_zero] at h1
  rw [h1] at hv
  cases e : sl[j]? with
  | none => rw [e] at hv; cases hv
  | some x =>
   rw [e] at hv
   have hv : some (Value.int .u64 x) = some v := hv
   rw [row_cell h.row, Nat.zero_add, h.at_ j x e]
   exact hv
theorem SlOk.kept {w w' : World} {g : Nat} {A : Option Addr} {sl : List Int} {S : List Nat} (h : SlOk w g A sl) (k : Keep S w w') (hs : ∀ z, A = some z → z.block ∉ S) : SlOk w' g A sl :=
 h.imp id fun ⟨bs, cur, h, hn⟩ => ⟨bs, cur, ⟨h.a, k.row h.row (hs _ h.a), h.at_⟩, hn⟩
theorem SlOk.below {w w' : World} {g : Nat} {A : Option Addr} {sl : List Int} (h : SlOk w g A sl) (hb : Below w.heap.size w w') : SlOk w' g A sl :=
 h.imp id fun ⟨bs, cur, h, hn⟩ => ⟨bs, cur, ⟨h.a, row_below h.row hb, h.at_⟩, hn⟩
theorem SlB.set {w w' : World} {A : Option Addr} {sl : List Int} {bs : Nat} {cur : Array Value} {k : Nat} {x : Int} (h : SlB w A sl bs cur) (hr : w'.heap[bs]? = some (.cells (cur.setIfInBounds k (.int .u64 x)) 36 (0, 0))) : SlB w' A (sl.set k x) bs (cur.setIfInBounds k (.int .u64 x)) := by
 refine ⟨h.a, hr, fun j y hj => ?_⟩
 rw [List.getElem?_set] at hj
 by_cases e : k = j
 ·subst e
  rw [if_pos rfl] at hj
  split at hj
  ·rename_i hl
   injection hj with hj
   subst hj
   obtain ⟨z, hz⟩ : ∃ z, sl[k]? = some z := ⟨_, List.getElem?_eq_getElem hl⟩
   have := (Array.getElem?_eq_some_iff.1 (h.at_ k z hz)).1
   rw [Array.getElem?_setIfInBounds_self_of_lt this]
  ·cases hj
 ·rw [if_neg e] at hj
  rw [Array.getElem?_setIfInBounds_ne e]
  exact h.at_ j y hj
def abK (g : Nat) (A : Option Addr) : List Nat := g :: (A.map (·.block)).toList
def finK (o : Fo) (sl : List Int) : Int := if o.op = 3 ∧ sl[o.a.toNat]? = some 0 then o.b else 0
structure KPost (w w' : World) (g : Nat) (A : Option Addr) (c : Nat) (sl : List Int) (o : Fo) : Prop where
 sta : ∃ B d, Sta w' g A sl.length c B (finS o).length d (finH o) (finK o sl) ∧ Cells w' B ((finS o).flatMap nCells) ∧ ∀ z, B = some z → w.heap.size ≤ z.block
 sl : SlOk w' g A (finW o sl)
 kp : Keep (abK g A) w w'
theorem cells_of {w : World} {g : Nat} {cur : Array Value} {t : TypeId} (h : w.heap[g]? = some (.cells cur t (0, 0))) : Cells w (some ⟨g, 0, none⟩) cur.toList := fun _ => ⟨g, 0, rfl, fun j v hv => by rw [row_cell h, Nat.zero_add]; simpa using hv⟩
theorem infoInt : (Tryz.prog.info? 3).map (fun i => (i.zero, i.size, i.bytes)) = some (some (.int .i64 0), 1, 8) := by kernel_rfl
abbrev foV (o : Fo) : Value := .agg #[.int .u8 o.op, .int .i64 o.a, .int .i64 o.b]
theorem SlOk.kept1 {w w' : World} {g : Nat} {A : Option Addr} {sl : List Int} (h : SlOk w g A sl) (k : Keep [g] w w') : SlOk w' g A sl :=
 h.imp id fun ⟨bs, cur, h, hn⟩ => ⟨bs, cur, ⟨h.a, k.row h.row (by simpa using hn), h.at_⟩, hn⟩
theorem k1_world {w1 : World} {g n c : Nat} {A : Option Addr} {a : Int} (hg : Sta w1 g A n c none 0 0 false 0) (d : Nat) (X : Array Value) :
  Sta (((w1.setCell ⟨g, 1, none⟩ (.slice (some ⟨w1.heap.size + 1, 0, none⟩) 1 d)).alloc (.cells #[.int .i64 a] 3)).alloc (.cells (#[.int .i64 a] ++ X) 3)).drew.drew g A n c (some ⟨w1.heap.size + 1, 0, none⟩) 1 d false 0 ∧
  Cells (((w1.setCell ⟨g, 1, none⟩ (.slice (some ⟨w1.heap.size + 1, 0, none⟩) 1 d)).alloc (.cells #[.int .i64 a] 3)).alloc (.cells (#[.int .i64 a] ++ X) 3)).drew.drew (some ⟨w1.heap.size + 1, 0, none⟩) [.int .i64 a] ∧
  Keep [g] w1 (((w1.setCell ⟨g, 1, none⟩ (.slice (some ⟨w1.heap.size + 1, 0, none⟩) 1 d)).alloc (.cells #[.int .i64 a] 3)).alloc (.cells (#[.int .i64 a] ++ X) 3)).drew.drew := by
 refine ⟨row_alloc (row_alloc (row_set (i := 1) hg _)), fun _ => ⟨_, 0, rfl, fun j v hv => ?_⟩, ?_⟩
 ·obtain rfl : j = 0 := (by have h9 : j < 1 := (List.getElem?_eq_some_iff.1 hv).1; omega)
  have hh : ((((w1.setCell ⟨g, 1, none⟩ (.slice (some ⟨w1.heap.size + 1, 0, none⟩) 1 d)).alloc (.cells #[.int .i64 a] 3)).alloc (.cells (#[.int .i64 a] ++ X) 3)).drew.drew).heap[w1.heap.size + 1]? = some (.cells (#[.int .i64 a] ++ X) 3 (0, 0)) := heap_at (by first | rfl | (simp [World.setCell_size]) | (simp))
  rw [row_cell hh]
  rw [Array.getElem?_append_left (by simp)]
  exact hv
 ·have hk := (Keep.refl [g] w1).setCell (p := ⟨g, 1, none⟩) (.inl (by simp)) (.slice (some ⟨w1.heap.size + 1, 0, none⟩) 1 d)
  exact (((hk.call (by go_grown)).call (by go_grown)).drew).drew
section
variable (g c : Nat) (A : Option Addr) (sl : List Int) (w : World)
set_option maxRecDepth 100000 in
set_option maxHeartbeats 2000000 in
theorem k5_any (hg : Sta w g A sl.length c none 0 0 false 0) (hs : SlOk w g A sl) :
  Calls Tryz.prog 158 #[.pointer (some ⟨g, 0, none⟩), foV ⟨4, 0, 0⟩] w fun r w' => r = .returned (.tuple #[]) ∧ KPost w w' g A c sl ⟨4, 0, 0⟩ := by
 have HG := Lib.hid hg
 have HS := Lib.hid hs
 clear hg hs
 go_enter Tryz.func158, Tryz.ntmps158
 go_upto_region 1 with fail
 refine one_row w _ _ ?_
 intro w1 hr hb
 have HG1 := Lib.hid (row_below HG.out hb)
 have HS1 := Lib.hid (HS.out.below hb)
 have HB := Lib.hid hb
 clear hr hb
 obtain ⟨x0, x1, x2, x3, _⟩ := box4 HG1.out
 have f2 := row_frozen HG1.out 2
 have z := lt_of_heap HG1.out
 go_wp2_with fail
 go_end0
 have h2 := row_set (i := 2) HG1.out (.bool true)
 have hk := (Keep.refl [g] w1).setCell (p := ⟨g, 2, none⟩) (.inl (by simp)) (.bool true)
 refine ⟨rfl, ⟨none, 0, h2, Cells.nil, fun z hz => by cases hz⟩, ?_, ?_⟩
 ·exact HS1.out |> fun h => h.imp id fun ⟨bs, cur, h, hn⟩ => ⟨bs, cur, ⟨h.a, hk.row h.row (by simpa using hn), h.at_⟩, hn⟩
 ·exact ((keep_below HB.out [g]).trans hk).sub (fun i hi => by simp at hi; simp [abK, hi])
set_option maxRecDepth 100000 in
set_option maxHeartbeats 4000000 in
theorem k1_any (a : Nat) (ha : a ≤ 99) (hg : Sta w g A sl.length c none 0 0 false 0) (hs : SlOk w g A sl) :
  Calls Tryz.prog 153 #[.pointer (some ⟨g, 0, none⟩), foV ⟨0, a, 0⟩] w fun r w' => r = .returned (.tuple #[]) ∧ KPost w w' g A c sl ⟨0, a, 0⟩ := by
 have HG := Lib.hid hg
 have HS := Lib.hid hs
 obtain ⟨i0, hi0, hz0, hz1, hz2⟩ := info_parts infoInt
 clear hg hs
 go_enter Tryz.func153, Tryz.ntmps153
 go_upto_region 1 with fail
 refine one_row w _ _ ?_
 intro w1 hr hb
 have HG1 := Lib.hid (row_below HG.out hb)
 have HS1 := Lib.hid (HS.out.below hb)
 have HB := Lib.hid hb
 obtain ⟨y0, y1, y2, _⟩ := box3 hr
 have zy := lt_of_heap hr
 clear hr hb
 obtain ⟨x0, x1, x2, x3, _⟩ := box4 HG1.out
 have f1 := row_frozen HG1.out 1
 have z := lt_of_heap HG1.out
 go_region_with fail
 all_goals
  go_end0
  obtain ⟨h1, h2, h3⟩ := k1_world (a := (a : Int)) HG1.out _ _
  exact ⟨rfl, ⟨_, _, h1, h2, fun z hz => by injection hz with hz; subst hz; have := HB.out.size; show w.heap.size ≤ w1.heap.size + 1; omega⟩, HS1.out.kept1 h3, ((keep_below HB.out [g]).trans h3).sub (fun i hi => by simp at hi; simp [abK, hi])⟩
set_option maxRecDepth 100000 in
set_option maxHeartbeats 4000000 in
theorem k2_any (a : Nat) (ha : a ≤ 99) (hn : sl.length ≤ 6) (hg : Sta w g A sl.length c none 0 0 false 0) (hs : SlOk w g A sl) :
  Calls Tryz.prog 154 #[.pointer (some ⟨g, 0, none⟩), foV ⟨1, a, 0⟩] w fun r w' => r = .returned (.tuple #[]) ∧ KPost w w' g A c sl ⟨1, a, 0⟩ := by
 have HG := Lib.hid hg
 have HS := Lib.hid hs
 have HN := Lib.hid hn
 clear hg hs hn
 go_enter Tryz.func154, Tryz.ntmps154
 go_upto_region 1 with fail
 refine one_row w _ _ ?_
 intro w1 hr hb
 have HG1 := Lib.hid (row_below HG.out hb)
 have HS1 := Lib.hid (HS.out.below hb)
 have HB := Lib.hid hb
 have HR := Lib.hid hr
 obtain ⟨y0, y1, y2, _, _, _⟩ := box3 hr
 have zy := lt_of_heap hr
 clear hr hb
 go_wp2_with fail
 have hr := row_new w1 #[.int .i64 (a : Int)] 3
 have hb : Below w1.heap.size w1 (w1.alloc (.cells #[.int .i64 (a : Int)] 3)) := by go_grown
 generalize w1.alloc (.cells #[.int .i64 (a : Int)] 3) = w2 at hr hb ⊢
 have HC : Hid (Cells w2 (some ⟨w1.heap.size, 0, none⟩) ([(a : Int)].flatMap nCells)) := Lib.hid (fun _ => ⟨_, 0, rfl, fun j v hv => by rw [row_cell hr]; obtain rfl : j = 0 := (by have h9 : j < 1 := (List.getElem?_eq_some_iff.1 hv).1; omega); exact hv⟩)
 replace HG1 := Lib.hid (row_below HG1.out hb)
 replace HS1 := Lib.hid (HS1.out.below hb)
 replace HB := Lib.hid (below_only HB.out hb)
 replace HR := Lib.hid (row_below HR.out hb)
 clear hr hb y0 y1 y2 zy
 refine (has_any g sl.length c A none 0 0 false 0 _ 1 [(a : Int)] w2 (by simp) HC.out HG1.out HN.out).mono ?_
 rintro r w3 ⟨rfl, hb⟩
 replace HG1 := Lib.hid (row_below HG1.out hb)
 replace HS1 := Lib.hid (HS1.out.below hb)
 replace HB := Lib.hid (below_only HB.out hb)
 replace HR := Lib.hid (row_below HR.out hb)
 clear hb HC
 by_cases hlt : a < sl.length
 ·rw [show ([(a : Int)].all fun x => inB x 0 ((sl.length : Int) - 1)) = true by simp [inB]; omega]
  have hltI : (a : Int) < (sl.length : Int) := by omega
  have ha0 : (0 : Int) ≤ (a : Int) := by omega
  have hdI : decide ((sl.length : Int) ≤ (a : Int)) = false := decide_eq_false (by omega)
  rcases HS1.out with h0 | ⟨bs, cur, h, hne⟩
  ·rw [h0] at hlt; simp at hlt
  have HSB := Lib.hid h
  have Hne := Lib.hid hne
  have hA := h.a
  subst hA
  obtain ⟨y0, y1, y2, _, _, _⟩ := box3 HR.out
  have zy := lt_of_heap HR.out
  obtain ⟨x0, x1, x2, x3, _⟩ := box4 HG1.out
  have zg := lt_of_heap HG1.out
  have fa := row_frozen h.row a
  obtain ⟨xa, hxa⟩ : ∃ x, sl[a]? = some x := ⟨_, List.getElem?_eq_getElem hlt⟩
  have ca : w3.cell? ⟨bs, a, none⟩ = some (.int .u64 xa) := by rw [row_cell h.row]; exact h.at_ a xa hxa
  clear hxa
  have za := lt_of_heap h.row
  have Hlt := Lib.hid hlt
  clear h hne hlt
  go_wp2_with fail
  go_region
  all_goals
   go_end0
   first | rw [Nat.zero_add] | skip
   have h2 := row_set (i := a) HSB.out.row (.int .u64 0)
   have hk := ((Keep.refl [bs] w3).setCell (p := ⟨bs, a, none⟩) (.inl (by simp)) (.int .u64 0)).drew
   exact ⟨rfl, ⟨none, 0, hk.row HG1.out (by simpa using Hne.out.symm), Cells.nil, fun z hz => by cases hz⟩, .inr ⟨bs, _, HSB.out.set h2, Hne.out⟩, ((keep_below HB.out [bs]).trans hk).sub (T := abK g (some ⟨bs, 0, none⟩)) (fun i hi => by simp at hi; simp [abK, hi])⟩
 ·rw [show ([(a : Int)].all fun x => inB x 0 ((sl.length : Int) - 1)) = false by simp [inB]; omega]
  have Hlt := Lib.hid hlt
  clear hlt
  go_wp2_with fail
  go_end0
  refine ⟨rfl, ⟨none, 0, HG1.out, Cells.nil, fun z hz => by cases hz⟩, ?_, (keep_below HB.out _)⟩
  show SlOk w3 g A (sl.set (a : Int).toNat 0)
  rw [List.set_eq_of_length_le (by have := Hlt.out; simp; omega)]
  exact HS1.out
set_option maxRecDepth 100000 in
set_option maxHeartbeats 4000000 in
theorem k3_any (a b : Nat) (ha : a ≤ 99) (hb0 : b ≤ 99) (hn : sl.length ≤ 6) (hg : Sta w g A sl.length c none 0 0 false 0) (hs : SlOk w g A sl) :
  Calls Tryz.prog 156 #[.pointer (some ⟨g, 0, none⟩), foV ⟨2, a, b⟩] w fun r w' => r = .returned (.tuple #[]) ∧ KPost w w' g A c sl ⟨2, a, b⟩ := by
 have HG := Lib.hid hg
 have HS := Lib.hid hs
 have HN := Lib.hid hn
 clear hg hs hn
 go_enter Tryz.func156, Tryz.ntmps156
 go_upto_region 1 with fail
 refine one_row w _ _ ?_
 intro w1 hr hb
 have HG1 := Lib.hid (row_below HG.out hb)
 have HS1 := Lib.hid (HS.out.below hb)
 have HB := Lib.hid hb
 have HR := Lib.hid hr
 obtain ⟨y0, y1, y2, _, _, _⟩ := box3 hr
 have zy := lt_of_heap hr
 clear hr hb
 go_wp2_with fail
 have hr := row_new w1 #[.int .i64 (a : Int), .int .i64 (b : Int)] 3
 have hb : Below w1.heap.size w1 (w1.alloc (.cells #[.int .i64 (a : Int), .int .i64 (b : Int)] 3)) := by go_grown
 generalize w1.alloc (.cells #[.int .i64 (a : Int), .int .i64 (b : Int)] 3) = w2 at hr hb ⊢
 have HC : Hid (Cells w2 (some ⟨w1.heap.size, 0, none⟩) ([(a : Int), (b : Int)].flatMap nCells)) := Lib.hid (cells_of hr)
 replace HG1 := Lib.hid (row_below HG1.out hb)
 replace HS1 := Lib.hid (HS1.out.below hb)
 replace HB := Lib.hid (below_only HB.out hb)
 replace HR := Lib.hid (row_below HR.out hb)
 clear hr hb y0 y1 y2 zy
 refine (has_any g sl.length c A none 0 0 false 0 _ 2 [(a : Int), (b : Int)] w2 (by simp) HC.out HG1.out HN.out).mono ?_
 rintro r w3 ⟨rfl, hb⟩
 replace HG1 := Lib.hid (row_below HG1.out hb)
 replace HS1 := Lib.hid (HS1.out.below hb)
 replace HB := Lib.hid (below_only HB.out hb)
 replace HR := Lib.hid (row_below HR.out hb)
 clear hb HC
 by_cases hlt : a < sl.length ∧ b < sl.length
 ·obtain ⟨hlt, hltb⟩ := hlt
  rw [show ([(a : Int), (b : Int)].all fun x => inB x 0 ((sl.length : Int) - 1)) = true by simp [inB]; omega]
  have hltI : (a : Int) < (sl.length : Int) := by omega
  have ha0 : (0 : Int) ≤ (a : Int) := by omega
  have hdI : decide ((sl.length : Int) ≤ (a : Int)) = false := decide_eq_false (by omega)
  have hltIb : (b : Int) < (sl.length : Int) := by omega
  have hb0' : (0 : Int) ≤ (b : Int) := by omega
  have hdIb : decide ((sl.length : Int) ≤ (b : Int)) = false := decide_eq_false (by omega)
  rcases HS1.out with h0 | ⟨bs, cur, h, hne⟩
  ·rw [h0] at hlt; simp at hlt
  have HSB := Lib.hid h
  have Hne := Lib.hid hne
  have hA := h.a
  subst hA
  obtain ⟨y0, y1, y2, _, _, _⟩ := box3 HR.out
  have zy := lt_of_heap HR.out
  obtain ⟨x0, x1, x2, x3, _⟩ := box4 HG1.out
  have zg := lt_of_heap HG1.out
  have fa := row_frozen h.row a
  obtain ⟨xa, hxa⟩ : ∃ x, sl[a]? = some x := ⟨_, List.getElem?_eq_getElem hlt⟩
  have ca : w3.cell? ⟨bs, a, none⟩ = some (.int .u64 xa) := by rw [row_cell h.row]; exact h.at_ a xa hxa
  obtain ⟨xb, hxb⟩ : ∃ x, sl[b]? = some x := ⟨_, List.getElem?_eq_getElem hltb⟩
  have cb : w3.cell? ⟨bs, b, none⟩ = some (.int .u64 xb) := by rw [row_cell h.row]; exact h.at_ b xb hxb
  have Hxb := Lib.hid hxb
  clear hxa hxb hltb
  have za := lt_of_heap h.row
  have Hlt := Lib.hid hlt
  clear h hne hlt
  go_wp2_with fail
  go_region
  all_goals
   go_end0
   first | rw [Nat.zero_add] | skip
   have h2 := row_set (i := a) HSB.out.row (.int .u64 xb)
   have hk := ((Keep.refl [bs] w3).setCell (p := ⟨bs, a, none⟩) (.inl (by simp)) (.int .u64 xb)).drew
   exact ⟨rfl, ⟨none, 0, hk.row HG1.out (by simpa using Hne.out.symm), Cells.nil, fun z hz => by cases hz⟩, .inr ⟨bs, _, by show SlB _ _ (match sl[((b : Nat) : Int).toNat]? with | some x => sl.set (a : Int).toNat x | none => sl) _ _; rw [Int.toNat_natCast, Hxb.out]; exact HSB.out.set h2, Hne.out⟩, ((keep_below HB.out [bs]).trans hk).sub (T := abK g (some ⟨bs, 0, none⟩)) (fun i hi => by simp at hi; simp [abK, hi])⟩
 ·rw [show ([(a : Int), (b : Int)].all fun x => inB x 0 ((sl.length : Int) - 1)) = false by simp [inB]; omega]
  have Hlt := Lib.hid hlt
  clear hlt
  go_wp2_with fail
  go_end0
  refine ⟨rfl, ⟨none, 0, HG1.out, Cells.nil, fun z hz => by cases hz⟩, ?_, (keep_below HB.out _)⟩
  show SlOk w3 g A (match sl[((b : Nat) : Int).toNat]? with | some x => sl.set (a : Int).toNat x | none => sl)
  rw [Int.toNat_natCast]
  by_cases hb9 : b < sl.length
  ·rw [List.getElem?_eq_getElem hb9]
   dsimp only
   rw [List.set_eq_of_length_le (by have := Hlt.out; simp; omega)]
   exact HS1.out
  ·rw [List.getElem?_eq_none (by omega)]
   exact HS1.out
end
end Go.Proofs.YtbijaloeilnjoaaGreat

namespace Go.Proofs.YtbijaloeilnjoaaGreat
open Go.RowKit
set_option linter.unusedVariables false
set_option linter.unusedSimpArgs false

def fitFo (o : Fo) : Fo :=
 if o.op % 5 = 0 then ⟨0, o.a % 64, 0⟩ else if o.op % 5 = 1 then ⟨1, o.a % 8 % 6, 0⟩ else if o.op % 5 = 2 then ⟨2, o.a % 8 % 6, o.b % 8 % 6⟩ else if o.op % 5 = 3 then ⟨3, o.a % 8 % 6, o.b % 8⟩ else ⟨4, 0, 0⟩
theorem fitFo_ok (o : Fo) : FoOk (fitFo o) := by
 unfold fitFo
 split
 ·exact ⟨by simp, by simp; omega, by simp, by simp⟩
 split
 ·exact ⟨by simp, by simp; omega, by simp, by simp⟩
 split
 ·exact ⟨by simp, by simp; omega, by simp; omega, by simp⟩
 split
 ·exact ⟨by simp, by simp; omega, by simp; omega, by simp⟩
 ·exact ⟨by simp, by simp, by simp, by simp⟩
def fitL (l : List (List Fo)) : List (List Fo) := (l.take 8).map fun p => (p.take 8).map fitFo
theorem fitL_len (l : List (List Fo)) : (fitL l).length ≤ 8 := by unfold fitL; simp; omega
theorem fitL_ops (l : List (List Fo)) : ∀ p ∈ fitL l, p.length ≤ 8 := by
 intro p hp
 unfold fitL at hp
 obtain ⟨q, _, rfl⟩ := List.mem_map.1 hp
 simp
 omega
theorem fitL_ok (l : List (List Fo)) : ∀ p ∈ fitL l, ∀ o ∈ p, FoOk o := by
 intro p hp o ho
 unfold fitL at hp
 obtain ⟨q, _, rfl⟩ := List.mem_map.1 hp
 obtain ⟨x, _, rfl⟩ := List.mem_map.1 ho
 exact fitFo_ok x
theorem ops_snoc {p : List Fo} {k : Nat} {o : Fo} (h : p[k]? = some o) : ((p.take (k + 1)).map fitFo).flatMap foCells = ((p.take k).map fitFo).flatMap foCells ++ foCells (fitFo o) := by
 rw [List.take_add_one, h]
 simp
theorem infoFOp3 : (Tryz.prog.info? 56).map (fun i => (i.zero, i.size, i.bytes)) = some (some (.agg #[.int .u8 0, .int .i64 0, .int .i64 0]), 3, 24) := by kernel_rfl
theorem infoFOps1 : (Tryz.prog.info? 54).map (fun i => (i.zero, i.size, i.bytes)) = some (some (.slice none 0 0), 1, 24) := by kernel_rfl
/-- a finalizer that was laid anew: in memory, behind a base, in a block of its own -/
structure FtAt (B : Nat) (w : World) (A : Option Addr) (x : FSl) : Prop where
 own : w.ownsRow B 56 3 (.slice x.a x.l.length x.c) x.l.length (x.l.flatMap foCells)
 lo : ∀ z, x.a = some z → B ≤ z.block ∧ z.block < w.heap.size
 ne : ∀ z y, x.a = some z → A = some y → y.block ≠ z.block
theorem FtAt.e {B : Nat} {w : World} {A : Option Addr} {x : FSl} (h : FtAt B w A x) : Cells w x.a (x.l.flatMap foCells) := by
 obtain ⟨A9, c9, e9, -, -, h9⟩ := own_slice h.own
 injection e9 with e1 e2 e3
 subst e1
 exact h9
theorem own_grown {w w' : World} {B e size n : Nat} {v : Value} {xs : List Value} {row : Option Nat} (h : w.ownsRow B e size v n xs) (hg : w.grownBy w' row) (hn : ∀ k, v.ownBlock = some k → some k ≠ row) : w'.ownsRow B e size v n xs := by
 refine ⟨h.1, ?_⟩
 rcases h.2 with h | ⟨g, cap, cur, h1, h2, h3, h4⟩
 ·exact .inl h
 ·exact .inr ⟨g, cap, cur, h1, h2, (hg.block g (lt_of_heap h3) (hn g (by rw [h1]; rfl))).trans h3, h4⟩
theorem own_weak {w : World} {B B' e size n : Nat} {v : Value} {xs : List Value} (h : w.ownsRow B e size v n xs) (hb : B' ≤ B) : w.ownsRow B' e size v n xs := by
 refine ⟨h.1, ?_⟩
 rcases h.2 with h | ⟨g, cap, cur, h1, h2, h3⟩
 ·exact .inl h
 ·exact .inr ⟨g, cap, cur, h1, Nat.le_trans hb h2, h3⟩
/-- the finalizers that were laid, so far -/
structure FtsAt (B : Nat) (w : World) (A : Option Addr) (c : Nat) (ls : List (List Fo)) (fl : List FSl) : Prop where
 own : w.ownsRow B 54 1 (.slice A fl.length c) fl.length (fl.flatMap fslCells)
 at_ : ∀ x ∈ fl, FtAt B w A x
 is : fsL fl = ls.map fun p => (p.take 8).map fitFo
 ds : fl.Pairwise fun x y => ∀ z u, x.a = some z → y.a = some u → z.block ≠ u.block
theorem FtsAt.below {B : Nat} {w w' : World} {A : Option Addr} {c : Nat} {ls : List (List Fo)} {fl : List FSl} (h : FtsAt B w A c ls fl) (hb : Below w.heap.size w w') : FtsAt B w' A c ls fl :=
 ⟨own_below h.own hb, fun x hx => ⟨own_below (h.at_ x hx).own hb, fun z hz => ⟨((h.at_ x hx).lo z hz).1, Nat.lt_of_lt_of_le ((h.at_ x hx).lo z hz).2 hb.size⟩, (h.at_ x hx).ne⟩, h.is, h.ds⟩
end Go.Proofs.YtbijaloeilnjoaaGreat
