/- Layer 18: finalizers in memory, whose holds are taken out one by one. Layer 18: the walk of LeaveFresh. (Printed by gen_lf18.py.) -/
import Derived.Test.YtbijaloeilnjoaaGreatLw
namespace Go.Proofs.YtbijaloeilnjoaaGreat
open Go.RowKit
set_option linter.unusedVariables false
set_option linter.unusedSimpArgs false

def nhFo (o : Fo) : Fo := if o.op = 4 then ⟨0, 0, 0⟩ else o
def nhK (k : Nat) (l : List Fo) : List Fo := (l.take k).map nhFo ++ l.drop k
def nhX (k : Nat) (x : FSl) : FSl := ⟨x.a, x.c, nhK k x.l⟩
def nhI (i : Nat) (fl : List FSl) : List FSl := (fl.take i).map (fun x => nhX x.l.length x) ++ fl.drop i
theorem nhK_len (k : Nat) (l : List Fo) : (nhK k l).length = l.length := by unfold nhK; simp; omega
theorem nhK_0 (l : List Fo) : nhK 0 l = l := by simp [nhK]
theorem nhX_0 (x : FSl) : nhX 0 x = x := by unfold nhX; rw [nhK_0]
theorem nhK_get {k : Nat} {l : List Fo} {o : Fo} (h : l[k]? = some o) : (nhK k l)[k]? = some o := by
  have hk := (List.getElem?_eq_some_iff.1 h).1
  unfold nhK
  rw [List.getElem?_append_right (by simp; omega)]
  simp only [List.length_map, List.length_take, List.getElem?_drop]
  rw [show k + (k - min k l.length) = k by omega]
  exact h
theorem nhK_set {k : Nat} {l : List Fo} {o : Fo} (h : l[k]? = some o) : (nhK k l).set k (nhFo o) = nhK (k + 1) l := by
  have hk := (List.getElem?_eq_some_iff.1 h).1
  unfold nhK
  rw [List.set_append_right _ _ (by simp; omega), List.take_add_one, h]
  simp only [List.length_map, List.length_take]
  rw [show k - min k l.length = 0 by omega, List.drop_eq_getElem_cons hk, List.set_cons_zero]
  simp
theorem nhI_0 (fl : List FSl) : nhI 0 fl = fl := by simp [nhI]
theorem nhI_len (i : Nat) (fl : List FSl) : (nhI i fl).length = fl.length := by unfold nhI; simp; omega
theorem nhI_get {i : Nat} {fl : List FSl} {x : FSl} (h : fl[i]? = some x) : (nhI i fl)[i]? = some x := by
  have hk := (List.getElem?_eq_some_iff.1 h).1
  unfold nhI
  rw [List.getElem?_append_right (by simp; omega)]
  simp only [List.length_map, List.length_take, List.getElem?_drop]
  rw [show i + (i - min i fl.length) = i by omega]
  exact h
theorem nhI_set {i : Nat} {fl : List FSl} {x : FSl} (h : fl[i]? = some x) : (nhI i fl).set i (nhX x.l.length x) = nhI (i + 1) fl := by
  have hk := (List.getElem?_eq_some_iff.1 h).1
  unfold nhI
  rw [List.set_append_right _ _ (by simp; omega), List.take_add_one, h]
  simp only [List.length_map, List.length_take]
  rw [show i - min i fl.length = 0 by omega, List.drop_eq_getElem_cons hk, List.set_cons_zero]
  simp
theorem nhFo_ok {o : Fo} (h : FoOk o) : FoOk (nhFo o) := by
  unfold nhFo
  split
  · exact ⟨by simp, by simp, by simp, by simp⟩
  · exact h
theorem nhI_all (fl : List FSl) : fsL (nhI fl.length fl) = (fsL fl).map (fun p => p.map nhFo) := by
  unfold nhI fsL
  rw [List.take_length, List.drop_length, List.append_nil, List.map_map, List.map_map]
  refine List.map_congr_left fun x _ => ?_
  show nhK x.l.length x.l = x.l.map nhFo
  unfold nhK
  rw [List.take_length, List.drop_length, List.append_nil]
theorem nh_no (l : List (List Fo)) : NoH (l.map fun p => p.map nhFo) := by
  intro p hp o ho
  obtain ⟨q, _, rfl⟩ := List.mem_map.1 hp
  obtain ⟨x, _, rfl⟩ := List.mem_map.1 ho
  unfold nhFo
  split
  · simp
  · assumption
/-- the last one who leaves, when nothing holds -/
theorem alIn_nh {fs fs0 : List (List Fo)} (l : List Oj) (h : fs = (fitL fs0).map fun p => p.map nhFo) : AlIn fs (obsOf l) (c18 1) ⟨3, 0, 0, 4⟩ := by
  subst h
  refine ⟨fun p hp => ?_, fun p hp o ho => ?_, by rw [List.length_map]; exact fitL_len _, obsOf_ok l, by rw [obsOf_len]; omega, obsOf_used l, by decide, by kernel_rfl, ⟨by decide, rfl⟩⟩
  · obtain ⟨q, hq, rfl⟩ := List.mem_map.1 hp
    rw [List.length_map]
    exact fitL_ops _ q hq
  · obtain ⟨q, hq, rfl⟩ := List.mem_map.1 hp
    obtain ⟨x, hx, rfl⟩ := List.mem_map.1 ho
    exact nhFo_ok (fitL_ok _ q hq x hx)
theorem fo_set : ∀ (l : List Fo) (k : Nat) (o : Fo), k < l.length → (((l.flatMap foCells).set (k * 3) (.int .u8 o.op)).set (k * 3 + 1) (.int .i64 o.a)).set (k * 3 + 2) (.int .i64 o.b) = (l.set k o).flatMap foCells
  | [], k, o, h => by simp at h
  | a :: l, 0, o, h => by simp [foCells]
  | a :: l, k + 1, o, h => by
    have ih := fo_set l k o (by simpa using h)
    rw [List.set_cons_succ, List.flatMap_cons, List.flatMap_cons, ← ih, show (k + 1) * 3 = k * 3 + 1 + 1 + 1 by omega]
    simp [foCells]
/-- finalizers in memory, each in a block of its own -/
structure NhAt (B : Nat) (w : World) (A : Option Addr) (fl : List FSl) : Prop where
  row : Cells w A (fl.flatMap fslCells)
  own : ∀ x ∈ fl, w.ownsRow B 56 3 (.slice x.a x.l.length x.c) x.l.length (x.l.flatMap foCells)
  ne : ∀ x ∈ fl, ∀ z y, x.a = some z → A = some y → y.block ≠ z.block
  ds : fl.Pairwise fun x y => ∀ z u, x.a = some z → y.a = some u → z.block ≠ u.block
  lo : ∀ z, A = some z → z.block < w.heap.size
theorem FtsAt.nh {B : Nat} {w : World} {A : Option Addr} {c : Nat} {ls : List (List Fo)} {fl : List FSl} (h : FtsAt B w A c ls fl) : NhAt B w A fl := by
  have h8 : ∀ z, A = some z → z.block < w.heap.size := fun z hz => own_ltF h.own z.block (by rw [hz]; rfl)
  obtain ⟨A9, c9, e9, -, -, h9⟩ := own_slice h.own
  injection e9 with e1 e2 e3
  subst e1
  exact ⟨h9, fun x hx => (h.at_ x hx).own, fun x hx => (h.at_ x hx).ne, h.ds, h8⟩
theorem NhAt.fins {B : Nat} {w : World} {A : Option Addr} {fl : List FSl} (h : NhAt B w A fl) : FinsAt w A fl := ⟨h.row, fun x hx => by
  obtain ⟨A9, c9, e9, -, -, h9⟩ := own_slice (h.own x hx)
  injection e9 with e1 e2 e3
  subst e1
  exact h9⟩
theorem NhAt.below {B : Nat} {w w' : World} {A : Option Addr} {fl : List FSl} (h : NhAt B w A fl) (hb : Below w.heap.size w w') : NhAt B w' A fl := ⟨Cells.below h.row hb, fun x hx => own_below (h.own x hx) hb, h.ne, h.ds, fun z hz => Nat.lt_of_lt_of_le (h.lo z hz) hb.size⟩
theorem own_keptF {w w' : World} {B e size n : Nat} {S : List Nat} {v : Value} {xs : List Value} (h : w.ownsRow B e size v n xs) (hk : Keep S w w') (hn : ∀ k, v.ownBlock = some k → k ∉ S) : w'.ownsRow B e size v n xs := by
  refine ⟨h.1, ?_⟩
  rcases h.2 with h | ⟨g, cap, cur, h1, h2, h3, h4⟩
  · exact .inl h
  · exact .inr ⟨g, cap, cur, h1, h2, hk.row h3 (hn g (by rw [h1]; rfl)), h4⟩
/-- where an op lies, and what is there when it is stored anew -/
theorem NhAt.set {B : Nat} {w : World} {A : Option Addr} {fl : List FSl} {i k : Nat} {x : FSl} {o : Fo} (h : NhAt B w A fl) (hx : fl[i]? = some x) (ho : x.l[k]? = some o) :
    ∃ g cur, x.a = some ⟨g, 0, none⟩ ∧ B ≤ g ∧ g < w.heap.size ∧ w.heap[g]? = some (.cells cur 56 (0, 0)) ∧ k * 3 + 2 < cur.size ∧ w.cell? ⟨g, k * 3, none⟩ = some (.int .u8 o.op) ∧ w.cell? ⟨g, k * 3 + 1, none⟩ = some (.int .i64 o.a) ∧ w.cell? ⟨g, k * 3 + 2, none⟩ = some (.int .i64 o.b) ∧
      ∀ (o' : Fo) (w' : World), w'.heap[g]? = some (.cells (((cur.setIfInBounds (k * 3) (.int .u8 o'.op)).setIfInBounds (k * 3 + 1) (.int .i64 o'.a)).setIfInBounds (k * 3 + 2) (.int .i64 o'.b)) 56 (0, 0)) → Keep [g] w w' → NhAt B w' A (fl.set i ⟨x.a, x.c, x.l.set k o'⟩) := by
  have hm := List.mem_of_getElem? hx
  have hk := (List.getElem?_eq_some_iff.1 ho).1
  have hi := (List.getElem?_eq_some_iff.1 hx).1
  have hown := h.own x hm
  have hne := h.ne x hm
  rcases hown.2 with ⟨_, h0⟩ | ⟨g, cap, cur, h1, h2, h3, h4, h5, h6, h7⟩
  · omega
  injection h1 with e1 e2 e3
  have hget : ∀ j v, (x.l.flatMap foCells)[j]? = some v → cur[j]? = some v := fun j v hv => by
    rw [← h7, List.getElem?_take] at hv
    split at hv
    · simpa using hv
    · cases hv
  have gc := fun j (hj : j < 3) v (hv : (foCells o)[j]? = some v) => hget (k * 3 + j) v (by rw [flat_get foCells 3 (fun _ => rfl) x.l k j hj, ho]; exact hv)
  refine ⟨g, cur, e1, h2, lt_of_heap h3, h3, by rw [h6]; omega, by rw [row_cell h3]; exact gc 0 (by omega) _ rfl, by rw [row_cell h3]; exact gc 1 (by omega) _ rfl, by rw [row_cell h3]; exact gc 2 (by omega) _ rfl, fun o' w' hr hK => ?_⟩
  have hds : ∀ j y, fl[j]? = some y → j ≠ i → ∀ z, y.a = some z → z.block ≠ g := fun j y hy hji z hz => by
    have hp := List.pairwise_iff_getElem.1 h.ds
    obtain ⟨hj, ey⟩ := List.getElem?_eq_some_iff.1 hy
    obtain ⟨_, ex⟩ := List.getElem?_eq_some_iff.1 hx
    rcases Nat.lt_or_gt_of_ne hji with hl | hl
    · exact hp j i hj hi hl z ⟨g, 0, none⟩ (by rw [ey]; exact hz) (by rw [ex]; exact e1)
    · exact (hp i j hi hj hl ⟨g, 0, none⟩ z (by rw [ex]; exact e1) (by rw [ey]; exact hz)).symm
  have hnew : w'.ownsRow B 56 3 (.slice x.a (x.l.set k o').length x.c) (x.l.set k o').length ((x.l.set k o').flatMap foCells) := by
    refine ⟨by rw [flat_length foCells 3 (fun _ => rfl)], .inr ⟨g, cap, _, by rw [List.length_set, e1, e3], h2, hr, by rw [List.length_set]; exact h4, h5, by simpa using h6, ?_⟩⟩
    rw [List.length_set]
    simp only [Array.toList_setIfInBounds, List.take_set]
    rw [h7]
    exact fo_set x.l k o' hk
  have hmem : ∀ y ∈ fl.set i ⟨x.a, x.c, x.l.set k o'⟩, y = ⟨x.a, x.c, x.l.set k o'⟩ ∨ ∃ j, fl[j]? = some y ∧ j ≠ i := fun y hy => by
    obtain ⟨j, hj⟩ := List.mem_iff_getElem?.1 hy
    rw [List.getElem?_set] at hj
    by_cases e : i = j
    · rw [if_pos e, if_pos hi] at hj
      injection hj with hj
      exact .inl hj.symm
    · rw [if_neg e] at hj; exact .inr ⟨j, hj, fun h => e h.symm⟩
  refine ⟨?_, fun y hy => ?_, fun y hy => ?_, ?_, fun z hz => Nat.lt_of_lt_of_le (h.lo z hz) hK.size⟩
  · have e : (fl.set i ⟨x.a, x.c, x.l.set k o'⟩).flatMap fslCells = fl.flatMap fslCells := by
      have : (fl.set i ⟨x.a, x.c, x.l.set k o'⟩).map fslCells = fl.map fslCells := by
        rw [List.map_set]
        refine List.ext_getElem? fun j => ?_
        rw [List.getElem?_set]
        by_cases e : i = j
        · subst e
          rw [if_pos rfl, if_pos (by simpa using hi), List.getElem?_map, hx]
          show some [Value.slice x.a (x.l.set k o').length x.c] = _
          rw [List.length_set]; rfl
        · rw [if_neg e]
      rw [List.flatMap_def, List.flatMap_def, this]
    rw [e]
    exact Cells.kept h.row hK (fun y hy => by simpa using hne _ y e1 hy)
  · rcases hmem y hy with rfl | ⟨j, hj, hji⟩
    · exact hnew
    · refine own_keptF (h.own y (List.mem_of_getElem? hj)) hK (fun q hq => ?_)
      obtain ⟨z, hz1, hz2⟩ := own_block hq
      have := hds j y hj hji z hz1
      simp only [List.mem_singleton]
      omega
  · rcases hmem y hy with rfl | ⟨j, hj, hji⟩
    · exact hne
    · exact h.ne y (List.mem_of_getElem? hj)
  · refine List.pairwise_iff_getElem.2 fun a b ha hb hab => ?_
    have hp := List.pairwise_iff_getElem.1 h.ds
    have ga : ∀ (c : Nat) (hc : c < (fl.set i ⟨x.a, x.c, x.l.set k o'⟩).length), ((fl.set i ⟨x.a, x.c, x.l.set k o'⟩)[c]).a = (fl[c]'(by simpa using hc)).a := fun c hc => by
      rw [List.getElem_set]
      split
      · rename_i e
        subst e
        obtain ⟨_, ex⟩ := List.getElem?_eq_some_iff.1 hx
        rw [ex]
      · rfl
    rw [ga a ha, ga b hb]
    exact hp a b (by simpa using ha) (by simpa using hb) hab
end Go.Proofs.YtbijaloeilnjoaaGreat

namespace Go.Proofs.YtbijaloeilnjoaaGreat
open Go.RowKit
set_option linter.unusedVariables false
set_option linter.unusedSimpArgs false

theorem set_self {α : Type _} {l : List α} {i : Nat} {x : α} (h : l[i]? = some x) : l.set i x = l := by
  obtain ⟨hi, e⟩ := List.getElem?_eq_some_iff.1 h
  rw [← e]
  exact List.set_getElem_self hi
theorem nhK_skip {k : Nat} {l : List Fo} {o : Fo} (h : l[k]? = some o) (h4 : ¬ o.op = 4) : nhK (k + 1) l = nhK k l := by
  have e : nhFo o = o := by unfold nhFo; rw [if_neg h4]
  rw [← nhK_set h, e, set_self (nhK_get h)]
theorem NhAt.off {B b : Nat} {w : World} {A : Option Addr} {fl : List FSl} (h : NhAt B w A fl) (hb : w.heap.size ≤ b) : FinsOff A fl b := by
  have hc := h.fins
  refine ⟨fun z hz => ?_, fun x hx z hz => ?_⟩
  · have := h.lo z hz; omega
  · have := own_ltF (h.own x hx) z.block (by rw [hz]; rfl)
    omega
theorem nh_row {B : Nat} {w : World} {fA : Option Addr} {fl : List FSl} {i : Nat} {x : FSl} (h : NhAt B w fA fl) (hx : fl[i]? = some x) : ∃ b off, fA = some ⟨b, off, none⟩ ∧ b < w.heap.size ∧ w.cell? ⟨b, off + i, none⟩ = some (.slice x.a x.l.length x.c) := by
  have hi := (List.getElem?_eq_some_iff.1 hx).1
  obtain ⟨b, off, e, hb, hc⟩ := h.fins.at_ (by omega)
  exact ⟨b, off, e, hb, hc i x hx⟩
set_option maxRecDepth 100000 in
set_option maxHeartbeats 8000000 in
theorem leaveFresh_walk (A0 : Option Addr) (c0 : Nat) (l0 : List FSl) (A1 : Option Addr) (c1 : Nat) (l1 : List Oj) (W : World) (hl0 : l0.length ≤ c0) (hc0 : c0 ≤ maxLen) (he0 : Cells W A0 (l0.flatMap fslCells)) (hq0 : ∀ e ∈ l0, FslOk W e) (hl1 : l1.length ≤ c1) (hc1 : c1 ≤ maxLen) (he1 : Cells W A1 (l1.flatMap jCells)) (hq1 : ∀ e ∈ l1, OjOk e) :
    Calls Tryz.prog 4 #[.slice A0 l0.length c0, .slice A1 l1.length c1] W fun r w' => r = .returned (.bool true) ∧ Below W.heap.size W w' := by
  have HI0 := Lib.hid (finsAt_in he0 hq0)
  have Hq0 := Lib.hid hq0
  have HJ1 := Lib.hid he1
  have Hq1 := Lib.hid hq1
  have Hln := Lib.hid (And.intro (Nat.le_trans hl0 hc0) (Nat.le_trans hl1 hc1))
  have l1I : (l1.length : Int) ≤ 9223372036854775807 := by have := Nat.le_trans hl1 hc1; unfold maxLen at this; omega
  clear hl0 hc0 he0 hq0 hl1 hc1 he1 hq1
  go_enter Tryz.func4, Tryz.ntmps4
  go_wp2_with fail
  refine (shown18_any _).mono ?_
  rintro r w1 ⟨rfl, hb⟩
  have HB := Lib.hid hb
  replace HI0 := Lib.hid (HI0.out.below hb)
  have HB1 := Lib.hid hb.size
  clear hb
  go_wp2_with fail
  refine (fit_any A0 c0 l0 _ HI0.out (fun x hx o ho => ((Hq0.out x hx).o o ho).op) Hln.out.1 (fun x hx => Nat.le_trans (Hq0.out x hx).n.1 (Hq0.out x hx).n.2)).mono ?_
  rintro r w2 ⟨fA, fc, fl, rfl, hft, hb⟩
  have HFt := Lib.hid hft
  have HBs := Lib.hid HB.out.size
  replace HB := Lib.hid (below_only HB.out hb)
  have HFs : Hid (fsL fl = fitL (fsL l0)) := Lib.hid hft.is
  obtain ⟨B, HBB⟩ : ∃ x, Hid (w1.heap.size = x ∧ W.heap.size ≤ x) := ⟨_, Lib.hid ⟨rfl, HB1.out⟩⟩
  have HN : Hid (NhAt B w2 fA fl) := Lib.hid (by rw [← HBB.out.1]; exact hft.nh)
  have hl8 : fl.length ≤ 8 := by have := congrArg List.length HFs.out; have h9 := fitL_len (fsL l0); simp only [fsL, List.length_map] at this h9; omega
  clear hft hb HI0 Hq0 HFt
  go_wp2_with fail
  go_loopw [7] (fun v wr => ∃ i : Nat, i ≤ fl.length ∧ v = .int .i64 i ∧ NhAt B wr fA (nhI i fl) ∧ Below W.heap.size W wr) (fun v _ => (8 - intOf v).toNat)
  case atStart => exact ⟨0, Nat.zero_le _, rfl, by rw [nhI_0]; exact HN.out, HB.out⟩
  case round =>
    obtain ⟨i, hi, rfl, hN, hB⟩ := hrel
    clear HN HB
    have HN := Lib.hid hN
    have HB := Lib.hid hB
    have iI0 : (0 : Int) ≤ (i : Int) := by omega
    have iI8 : (i : Int) ≤ 8 := by omega
    clear hN hB
    by_cases hlt : i < fl.length
    · obtain ⟨x, hx⟩ : ∃ x, fl[i]? = some x := ⟨_, List.getElem?_eq_getElem hlt⟩
      have Hx := Lib.hid hx
      have hx8 : x.l.length ≤ 8 := by
        have h9 := fitL_ops (fsL l0) x.l (by rw [← HFs.out]; exact List.mem_map.2 ⟨x, List.mem_of_getElem? hx, rfl⟩)
        exact h9
      have iL : (i : Int) < (fl.length : Int) := by omega
      clear hx
      obtain ⟨xa, xc, xl⟩ := x
      dsimp only at hx8
      have HiL := Lib.hid hlt
      clear hlt
      go_wp2_with fail
      go_loopw [8] (fun v wz => ∃ k : Nat, k ≤ xl.length ∧ v = .int .i64 k ∧ NhAt B wz fA ((nhI i fl).set i (nhX k ⟨xa, xc, xl⟩)) ∧ Below W.heap.size W wz) (fun v _ => (8 - intOf v).toNat)
      case atStart =>
        refine ⟨0, Nat.zero_le _, rfl, ?_, HB.out⟩
        rw [nhX_0, set_self (nhI_get Hx.out)]
        exact HN.out
      case round =>
        obtain ⟨k, hk, rfl, hN, hB⟩ := hrel
        clear HN HB
        have HN := Lib.hid hN
        have HB := Lib.hid hB
        have kI0 : (0 : Int) ≤ (k : Int) := by omega
        have kI8 : (k : Int) ≤ 8 := by omega
        clear hN hB
        have hget : ((nhI i fl).set i (nhX k ⟨xa, xc, xl⟩))[i]? = some (nhX k ⟨xa, xc, xl⟩) := by rw [List.getElem?_set, if_pos rfl, if_pos (by rw [nhI_len]; exact HiL.out)]
        obtain ⟨bf, of, hA, zf, s0⟩ := nh_row HN.out hget
        rw [show (nhX k ⟨xa, xc, xl⟩).l.length = xl.length from nhK_len k xl] at s0
        change _ = some (Value.slice xa xl.length xc) at s0
        have Hg := Lib.hid hget
        clear hget
        subst hA
        by_cases hkt : k < xl.length
        · obtain ⟨y, hy⟩ : ∃ y, xl[k]? = some y := ⟨_, List.getElem?_eq_getElem hkt⟩
          obtain ⟨g, cur, hxa, hBg, zg, hrg, hcs, o0, o1, o2, hset⟩ := NhAt.set HN.out Hg.out (nhK_get hy)
          change xa = _ at hxa
          subst hxa
          have Hset := Lib.hid hset
          have HR := Lib.hid hrg
          have HBg := Lib.hid hBg
          have Hcs := Lib.hid hcs
          have Hy := Lib.hid hy
          have kL : (k : Int) < (xl.length : Int) := by omega
          obtain ⟨yo, ya, yb⟩ := y
          dsimp only at o0 o1 o2
          have z0 := row_frozen HR.out (k * 3)
          have z1 := row_frozen HR.out (k * 3 + 1)
          have z2 := row_frozen HR.out (k * 3 + 2)
          have kw : IntKind.i64.wrap ((k : Int) + 1) = (k : Int) + 1 := IntWalk.i64_in _ (by omega)
          clear hset hrg hcs hBg hy
          by_cases h4 : yo = 4
          · subst h4
            go_wp2_with fail
            have hK : Keep [g] wr (((wr.setCell ⟨g, k * 3, none⟩ (.int .u8 0)).setCell ⟨g, k * 3 + 1, none⟩ (.int .i64 0)).setCell ⟨g, k * 3 + 2, none⟩ (.int .i64 0)) := (((Keep.refl [g] wr).setCell (p := ⟨g, k * 3, none⟩) (.inl (by simp)) _).setCell (p := ⟨g, k * 3 + 1, none⟩) (.inl (by simp)) _).setCell (p := ⟨g, k * 3 + 2, none⟩) (.inl (by simp)) _
            have hN := Hset.out ⟨0, 0, 0⟩ _ (row_set (i := k * 3 + 2) (row_set (i := k * 3 + 1) (row_set (i := k * 3) HR.out (.int .u8 0)) (.int .i64 0)) (.int .i64 0)) hK
            have hB := Keep.under HB.out hK HB.out.size (by simp; exact Nat.le_trans HBB.out.2 HBg.out)
            rw [List.set_set] at hN
            have e9 : (⟨(nhX k ⟨some ⟨g, 0, none⟩, xc, xl⟩).a, (nhX k ⟨some ⟨g, 0, none⟩, xc, xl⟩).c, (nhX k ⟨some ⟨g, 0, none⟩, xc, xl⟩).l.set k ⟨0, 0, 0⟩⟩ : FSl) = nhX (k + 1) ⟨some ⟨g, 0, none⟩, xc, xl⟩ := by
              have h9 := nhK_set Hy.out
              unfold nhX
              dsimp only
              rw [← h9]
              rfl
            rw [e9] at hN
            go_roundw
            case rel => exact ⟨k + 1, by omega, by go_num, hN, hB⟩
            case measure => simp [intOf]; omega
          · have h9 := nhK_skip Hy.out (by exact h4)
            have HN9 : Hid (nhX (k + 1) ⟨some ⟨g, 0, none⟩, xc, xl⟩ = nhX k ⟨some ⟨g, 0, none⟩, xc, xl⟩) := Lib.hid (by unfold nhX; dsimp only; rw [h9])
            clear h9
            go_wp2_with fail
            go_roundw
            case rel => exact ⟨k + 1, by omega, by go_num, by rw [HN9.out]; exact HN.out, HB.out⟩
            case measure => simp [intOf]; omega
        · have kL : ¬ ((k : Int) < (xl.length : Int)) := by omega
          have HN9 : Hid ((nhI i fl).set i (nhX k ⟨xa, xc, xl⟩) = nhI (i + 1) fl) := Lib.hid (by
            obtain rfl : k = xl.length := by omega
            exact nhI_set Hx.out)
          rw [HN9.out] at HN
          have iw : IntKind.i64.wrap ((i : Int) + 1) = (i : Int) + 1 := IntWalk.i64_in _ (by omega)
          have HiL2 := HiL.out
          clear hkt HN9
          go_wp2_with fail
          go_roundw
          case rel => exact ⟨i + 1, by omega, by go_num, HN.out, HB.out⟩
          case measure => simp [intOf]; omega
    · have iL : ¬ ((i : Int) < (fl.length : Int)) := by omega
      obtain rfl : i = fl.length := by omega
      obtain ⟨f2, Hf2⟩ : ∃ y, Hid (nhI fl.length fl = y) := ⟨_, Lib.hid rfl⟩
      have hlen : fl.length = f2.length := by rw [← Hf2.out, nhI_len]
      have Hfs2 : Hid (fsL f2 = (fitL (fsL l0)).map fun p => p.map nhFo) := Lib.hid (by rw [← Hf2.out, nhI_all, HFs.out])
      rw [Hf2.out] at HN
      replace HJ1 := Lib.hid (Cells.below HJ1.out HB.out)
      have HFa : Hid (FinsAt wr fA f2) := Lib.hid HN.out.fins
      have HO : Hid (∀ b, wr.heap.size ≤ b → FinsOff fA f2 b) := Lib.hid (fun b hb => HN.out.off hb)
      have HBz := Lib.hid HB.out.size
      clear hi hlt
      rw [hlen] at iL iI0 iI8 hl8 ⊢
      clear HN Hf2
      go_wp2_with fail
      refine (laid_any ⟨fA, f2.length, fc⟩ A1 c1 l1 1 _ (by decide) HJ1.out Hq1.out Hln.out.2).mono ?_
      rintro r w3 ⟨p, b, X, q, d, rfl, hT, -, hb⟩
      have HT := Lib.hid hT
      replace HB := Lib.hid (below_only HB.out hb)
      have HOff : Hid (FinsOff fA f2 b) := Lib.hid (HO.out b hT.low.2.1)
      replace HFa := Lib.hid (HFa.out.below hb)
      have HLw : Hid (W.heap.size ≤ b) := Lib.hid (Nat.le_trans HBz.out hT.low.2.1)
      have HI := Lib.hid (alIn_nh (fs := fsL f2) l1 Hfs2.out)
      have hh := laFa_noh (fs := fsL f2) (by rw [Hfs2.out]; exact nh_no _) (obsOf l1)
      have Hh := Lib.hid hh
      clear hT hb HJ1 Hq1 HO hh
      go_wp2_with fail
      refine (rallGet_any X q d 2 4 0 512 _ 9 128 1 1 _ HT.out.x wsL_b (by decide) (by decide) (by decide)).mono ?_
      rintro r w4 ⟨rfl, hb⟩
      replace HT := Lib.hid (HT.out.below hb)
      replace HB := Lib.hid (below_only HB.out hb)
      replace HFa := Lib.hid (HFa.out.below hb)
      clear hb
      go_wp2_with fail
      refine (alone_any f2 (obsOf l1) (c18 1) ⟨3, 0, 0, 4⟩ fA fc p b _ HI.out HT.out.a HFa.out HOff.out).mono ?_
      rintro r w5 ⟨ch, T, R, rfl, hal, hK⟩
      have hE := hal.ended HI.out
      have HA : Hid (Arn w5 p b (wsL ⟨1, 0, -1, 5⟩ 0 0 (List.replicate 64 0))) := Lib.hid (by have h9 := hE.arn; rw [ws_open HI.out.f8 HI.out.use Hh.out] at h9; exact h9)
      have HDn : Hid (R.done = true ∧ R.point = true ∧ R.code = 0) := Lib.hid ⟨hE.dn, hE.pt, by rw [hE.co, Hh.out]; rfl⟩
      replace HB := Lib.hid (Keep.under HB.out hK (by have := HB.out.size; omega) (by simp; exact HLw.out))
      clear hal hK hE HT HFa HOff HI Hh
      go_upto_region 16 with (refine wpList_store_row rfl 43 (.tmp 12) (.tmp 76) rfl w5.heap.size R.arr rfl rfl 43 ZRun (row_new _ _ _) infoRun rfl (Rn.one _) ?_; (try simp only [Act.put]); (try simp only [List.setIfInBounds_toArray]); (try simp only [List.set_cons_succ]); (try simp only [List.set_cons_zero]))
      refine alloc_set' w5 _ _ _ ?_
      intro w6 hr hb
      have c21 : w6.cell? ⟨w5.heap.size, 21, none⟩ = some (.bool true) := by rw [row_cell hr, ← HDn.out.1]; rfl
      have c22 : w6.cell? ⟨w5.heap.size, 22, none⟩ = some (.bool true) := by rw [row_cell hr, ← HDn.out.2.1]; rfl
      have c23 : w6.cell? ⟨w5.heap.size, 23, none⟩ = some (.int .i64 0) := by rw [row_cell hr, ← HDn.out.2.2]; rfl
      obtain ⟨g6, Hg6⟩ : ∃ x, Hid (w5.heap.size = x) := ⟨_, Lib.hid rfl⟩
      have HC6 : Hid (w6.cell? ⟨g6, 21, none⟩ = some (.bool true) ∧ w6.cell? ⟨g6, 22, none⟩ = some (.bool true) ∧ w6.cell? ⟨g6, 23, none⟩ = some (.int .i64 0) ∧ g6 < w6.heap.size) := Lib.hid (by rw [← Hg6.out]; exact ⟨c21, c22, c23, lt_of_heap hr⟩)
      rw [Hg6.out]
      replace HA := Lib.hid (HA.out.below hb)
      replace HB := Lib.hid (below_only HB.out hb)
      clear hr hb c21 c22 c23 Hg6
      go_wp2_with fail
      refine (plan18_any _).mono ?_
      rintro r w7 ⟨rfl, hb⟩
      have HB7 := Lib.hid hb
      replace HA := Lib.hid (HA.out.below hb)
      replace HB := Lib.hid (below_only HB.out hb)
      clear hb
      go_wp2_with fail
      refine (foundCtl_any p b 2 4 0 512 _ 8 1 ⟨1, 0, -1, 5⟩ _ plan18 HA.out (by decide) wsL_c (by decide) (by decide)).mono ?_
      rintro r w8 ⟨rfl, hb⟩
      replace HB7 := Lib.hid (below_only HB7.out hb)
      replace HA := Lib.hid (HA.out.below hb)
      replace HB := Lib.hid (below_only HB.out hb)
      clear hb
      go_upto_region 17 with fail
      refine one_row w8 _ _ ?_
      intro w9 hr hb
      replace HB7 := Lib.hid (below_only HB7.out hb)
      replace HA := Lib.hid (HA.out.below hb)
      replace HB := Lib.hid (below_only HB.out hb)
      obtain ⟨y0, y1, y2, y3, _⟩ := box4 hr
      have zy := lt_of_heap hr
      obtain ⟨c21, c22, c23, z6⟩ := HC6.out
      replace c21 := (HB7.out.cell (p := ⟨g6, 21, none⟩) z6).trans c21
      replace c22 := (HB7.out.cell (p := ⟨g6, 22, none⟩) z6).trans c22
      replace c23 := (HB7.out.cell (p := ⟨g6, 23, none⟩) z6).trans c23
      replace z6 := Nat.lt_of_lt_of_le z6 HB7.out.size
      clear hr hb HC6 HB7
      have HW := fun (i : Nat) (hi : i < 64) => Lib.hid (show Calls Tryz.prog 23 #[.pointer (some ⟨p, 0, none⟩), .int .i64 (128 + 8 * (i : Int))] w9 fun r w' => r = .returned (.tuple #[.int .u64 0, .int .i64 0]) ∧ w' = w9 from by
        have h9 := arnWord_any p b _ (16 + i) 0 w9 HA.out (by rw [wsL_e, List.getElem?_replicate, if_pos hi])
        rw [show (((16 + i) * 8 : Nat) : Int) = 128 + 8 * (i : Int) from by omega] at h9
        exact h9)
      go_wp2_with fail
      clear c21 c22 c23 z6 y0 y1 y2 y3 zy
      go_loopw [16] (fun v wr => ∃ i : Nat, i ≤ 64 ∧ v = .int .i64 i ∧ w9 = wr) (fun v _ => (64 - intOf v).toNat)
      case atStart => exact ⟨0, by omega, rfl, rfl⟩
      case round =>
        obtain ⟨i, hi, rfl, rfl⟩ := hrel
        have iI0 : (0 : Int) ≤ (i : Int) := by omega
        have iI8 : (i : Int) ≤ 64 := by omega
        have i8 : IntKind.i64.wrap (8 * (i : Int)) = 8 * (i : Int) := IntWalk.i64_in _ (by omega)
        have i9 : IntKind.i64.wrap (128 + 8 * (i : Int)) = 128 + 8 * (i : Int) := IntWalk.i64_in _ (by omega)
        by_cases hlt : i < 64
        · have iL : (i : Int) < 64 := by omega
          go_wp2_with fail
          refine (HW i hlt).out.mono ?_
          rintro r w10 ⟨rfl, rfl⟩
          go_wp2_with fail
          go_roundw
          case rel => exact ⟨i + 1, by omega, by go_num, by first | exact rfl | trivial⟩
          case measure => simp [intOf]; omega
        · have iL : ¬ ((i : Int) < 64) := by omega
          go_wp2_with fail
          refine (rplanAt_any 3 1 _ (by decide) (by decide)).mono ?_
          rintro r w10 ⟨rfl, rfl⟩
          go_wp2_with fail
          refine (arnWord_any p b _ 11 0 _ HA.out wsL_t).mono ?_
          rintro r w11 ⟨rfl, rfl⟩
          go_wp2_with fail
          refine (rplanAt_any 4 1 _ (by decide) (by decide)).mono ?_
          rintro r w12 ⟨rfl, rfl⟩
          go_wp2_with fail
          refine (arnWord_any p b _ 12 0 _ HA.out wsL_g).mono ?_
          rintro r w13 ⟨rfl, rfl⟩
          go_wp2_with fail
          go_ret
          exact ⟨rfl, HB.out⟩
end Go.Proofs.YtbijaloeilnjoaaGreat
