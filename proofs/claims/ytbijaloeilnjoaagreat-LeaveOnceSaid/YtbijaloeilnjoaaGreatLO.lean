/- Layer 18: the walk of penfoldref10.Fit. (Printed by gen_fit18.py.) How the arguments of layer 18's laws are opened: finalizers, objects. -/
import Derived.Test.YtbijaloeilnjoaaGreatLF
import Derived.Test.YtbijaloeilnjoaaGreatLZ
namespace Go.Proofs.YtbijaloeilnjoaaGreat
open Go.RowKit
set_option linter.unusedVariables false
set_option linter.unusedSimpArgs false

theorem own_block {A : Option Addr} {n c : Nat} {k : Nat} (h : (Value.slice A n c).ownBlock = some k) : ∃ y, A = some y ∧ y.block = k := by
 cases A with
 | none => simp [Value.ownBlock] at h
 | some y => exact ⟨y, rfl, by simpa [Value.ownBlock] using h⟩
theorem FtsAt.snoc {B : Nat} {w w' : World} {A A' : Option Addr} {c c' : Nat} {ls : List (List Fo)} {fl : List FSl} {p : List Fo} {x : FSl} (h : FtsAt B w A c ls fl) (hx : FtAt B w A x) (hl : x.l = (p.take 8).map fitFo)
  (hds : ∀ y ∈ fl, ∀ z u, y.a = some z → x.a = some u → z.block ≠ u.block) (hown : w'.ownsRow B 54 1 (.slice A' (fl.length + 1) c') (fl.length + 1) (fl.flatMap fslCells ++ fslCells x)) (hg : w.grownBy w' (Value.slice A fl.length c).ownBlock)
  (hat : (Value.slice A' (fl.length + 1) c').ownBlock = (Value.slice A fl.length c).ownBlock ∨ (Value.slice A' (fl.length + 1) c').ownBlock = some w.heap.size) : FtsAt B w' A' c' (ls ++ [p]) (fl ++ [x]) := by
 have key : ∀ y, FtAt B w A y → FtAt B w' A' y := fun y hy => by
  refine ⟨own_grown hy.own hg (fun k hk e => ?_), fun z hz => ⟨(hy.lo z hz).1, Nat.lt_of_lt_of_le (hy.lo z hz).2 hg.size⟩, fun z y' hz hA' => ?_⟩
  ·obtain ⟨a, h3, h4⟩ := own_block hk
   obtain ⟨y0, h1, h2⟩ := own_block e.symm
   exact hy.ne a y0 h3 h1 (h2.trans h4.symm)
  ·subst hA'
   have e0 : (Value.slice (some y') (fl.length + 1) c').ownBlock = some y'.block := rfl
   rcases hat with h1 | h1
   ·rw [e0] at h1
    obtain ⟨y0, h2, h3⟩ := own_block h1.symm
    have := hy.ne z y0 hz h2
    omega
   ·rw [e0] at h1
    injection h1 with h1
    have := (hy.lo z hz).2
    omega
 refine ⟨?_, fun y hy => ?_, ?_, List.pairwise_append.2 ⟨h.ds, List.pairwise_singleton .., fun y hy x' hx' => by simp only [List.mem_singleton] at hx'; subst hx'; exact hds y hy⟩⟩
 ·rw [List.flatMap_append, List.length_append]
  simpa using hown
 ·rcases List.mem_append.1 hy with hy | hy
  ·exact key y (h.at_ y hy)
  ·simp only [List.mem_singleton] at hy
   subst hy
   exact key y hx
 ·unfold fsL
  rw [List.map_append, List.map_append]
  have := h.is
  unfold fsL at this
  rw [this]
  simp [hl]
theorem own_ltF {w : World} {B : Nat} {e : TypeId} {size n : Nat} {v : Value} {xs : List Value} (h : w.ownsRow B e size v n xs) : ∀ k, v.ownBlock = some k → k < w.heap.size := by
 intro k hk
 rcases h.2 with ⟨rfl, rfl⟩ | ⟨g, cap, cur, rfl, hg, hh, _⟩
 ·simp [Value.ownBlock] at hk
 ·simp only [Value.ownBlock, Option.some.injEq] at hk
  subst hk
  exact lt_of_heap hh
theorem take_min {α : Type} (l : List α) {k : Nat} (h : k = min l.length 8) : l.take k = l.take 8 := by
 subst h
 by_cases h8 : l.length ≤ 8
 ·rw [Nat.min_eq_left h8, List.take_of_length_le (Nat.le_refl _), List.take_of_length_le h8]
 ·rw [Nat.min_eq_right (by omega)]
theorem foCells_one (o : Fo) : ∀ u ∈ foCells o, u.oneCell' = true := by
 intro u hu
 simp at hu
 rcases hu with rfl | rfl | rfl <;> rfl
set_option maxRecDepth 100000 in
set_option maxHeartbeats 8000000 in
theorem fit_any (A : Option Addr) (c : Nat) (fl : List FSl) (w : World) (h : FinsAt w A fl) (hop : ∀ x ∈ fl, ∀ o ∈ x.l, 0 ≤ o.op ∧ o.op ≤ 255) (hl : fl.length ≤ maxLen) (hl2 : ∀ x ∈ fl, x.l.length ≤ maxLen) :
  Calls Tryz.prog 12 #[.slice A fl.length c] w fun r w' => ∃ A' c' fl', r = .returned (.slice A' fl'.length c') ∧ FtsAt w.heap.size w' A' c' ((fsL fl).take 8) fl' ∧ Below w.heap.size w w' := by
 obtain ⟨i0, hi0, hz0, hz1, hz2⟩ := info_parts infoFOp3
 obtain ⟨j0, hj0, hy0, hy1, hy2⟩ := info_parts infoFOps1
 have HF := Lib.hid h
 have Hop := Lib.hid hop
 have Hl2 := Lib.hid hl2
 have hlI : (fl.length : Int) ≤ 9223372036854775807 := by unfold maxLen at hl; omega
 clear h hop hl2 hl
 go_enter Tryz.func12, Tryz.ntmps12
 go_wp2_with fail
 go_loopw [3, 4] (fun v t wr => ∃ (i : Nat) (A' : Option Addr) (c' : Nat) (fl' : List FSl), i ≤ min fl.length 8 ∧ v = .slice A' i c' ∧ t = .int .i64 i ∧ fl'.length = i ∧ FtsAt w.heap.size wr A' c' ((fsL fl).take i) fl' ∧ Below w.heap.size w wr) (fun _ t _ => (8 - intOf t).toNat)
 case atStart => exact ⟨0, _, _, [], by omega, rfl, rfl, rfl, ⟨own_empty (Nat.le_refl _) (row_new _ _ _), by simp, rfl, List.Pairwise.nil⟩, (Below.refl _ _).alloc (Nat.le_refl _) _⟩
 case round =>
  obtain ⟨i, A', c', fl', hi, rfl, rfl, hlen, hfts, hB⟩ := hrel
  obtain ⟨w1, hw1⟩ : ∃ x, x = wr := ⟨_, rfl⟩
  subst hw1
  have HFt := Lib.hid hfts
  have HB := Lib.hid hB
  have Hlen := Lib.hid hlen
  have iI0 : (0 : Int) ≤ (i : Int) := by omega
  have iI8 : (i : Int) ≤ 8 := by omega
  clear hfts hB hlen
  by_cases hlt : i < min fl.length 8
  ·obtain ⟨x, hx⟩ : ∃ x, fl[i]? = some x := ⟨_, List.getElem?_eq_getElem (by omega)⟩
   obtain ⟨bf, of, hA, hbf, hrow⟩ := HF.out.at_ (by omega)
   subst hA
   have hsl := hrow i x hx
   have hcx := HF.out.ops x (List.mem_of_getElem? hx)
   have hox := Hop.out x (List.mem_of_getElem? hx)
   have hlx := Hl2.out x (List.mem_of_getElem? hx)
   have hsn : (fsL fl).take (i + 1) = (fsL fl).take i ++ [x.l] := by rw [List.take_add_one, show (fsL fl)[i]? = some x.l from by rw [List.getElem?_map, hx]; rfl]; rfl
   obtain ⟨xa, xc, xl⟩ := x
   dsimp only at hsl hcx hox hlx hsn
   have HSl := Lib.hid (And.intro hsl hbf)
   have HCx := Lib.hid hcx
   have Hox := Lib.hid hox
   have HSn := Lib.hid hsn
   have hxI : (xl.length : Int) ≤ 9223372036854775807 := by unfold maxLen at hlx; omega
   have iL : (i : Int) < (fl.length : Int) := by omega
   have iLN : i < fl.length := by omega
   have i8 : (i : Int) < 8 := by omega
   have Hlx := Lib.hid hlx
   clear hx hrow hbf hsl hcx hox hsn hlx
   go_wp2_with fail
   go_loopw [5, 6] (fun v t wz => ∃ (k : Nat) (Ap : Option Addr) (cp : Nat), k ≤ min xl.length 8 ∧ v = .slice Ap k cp ∧ t = .int .i64 k ∧ wz.ownsRow w1.heap.size 56 3 (.slice Ap k cp) k (((xl.take k).map fitFo).flatMap foCells) ∧ Below w1.heap.size w1 wz) (fun _ t _ => (8 - intOf t).toNat)
   case atStart => exact ⟨0, _, _, by omega, rfl, rfl, own_empty (Nat.le_refl _) (row_new _ _ _), (Below.refl _ _).alloc (Nat.le_refl _) _⟩
   case round =>
    obtain ⟨k, Ap, cp, hk, rfl, rfl, hown, hBz⟩ := hrel
    have Hown := Lib.hid hown
    have HBz := Lib.hid hBz
    have kI0 : (0 : Int) ≤ (k : Int) := by omega
    have kI8 : (k : Int) ≤ 8 := by omega
    have s0 : wr.cell? ⟨bf, of + i, none⟩ = some (.slice xa xl.length xc) := (Below.cell HBz.out (Nat.lt_of_lt_of_le HSl.out.2 HB.out.size) (p := ⟨bf, of + i, none⟩)).trans ((Below.cell HB.out HSl.out.2 (p := ⟨bf, of + i, none⟩)).trans HSl.out.1)
    have zf : bf < wr.heap.size := Nat.lt_of_lt_of_le HSl.out.2 (Nat.le_trans HB.out.size HBz.out.size)
    clear hown hBz
    by_cases hkt : k < min xl.length 8
    ·obtain ⟨y, hy⟩ : ∃ y, xl[k]? = some y := ⟨_, List.getElem?_eq_getElem (by omega)⟩
     obtain ⟨bx, ox, hxa, hbx, hop9⟩ := fo_at HCx.out (by omega)
     subst hxa
     obtain ⟨q0, q1, q2⟩ := hop9 k y hy
     obtain ⟨y0, y1⟩ := Hox.out y (List.mem_of_getElem? hy)
     have hsn := ops_snoc hy
     obtain ⟨yo, ya, yb⟩ := y
     dsimp only at q0 q1 q2 y0 y1 hsn
     have HSp := Lib.hid hsn
     have hup : ∀ (p : Addr) v, p.block < w.heap.size → w.cell? p = some v → wr.cell? p = some v := fun p v hp hv => (Below.cell HBz.out (Nat.lt_of_lt_of_le hp HB.out.size) (p := p)).trans ((Below.cell HB.out hp (p := p)).trans hv)
     have o0 := hup ⟨bx, ox + k * 3, none⟩ _ hbx q0
     have o1 := hup ⟨bx, ox + k * 3 + 1, none⟩ _ hbx q1
     have o2 := hup ⟨bx, ox + k * 3 + 2, none⟩ _ hbx q2
     have zx : bx < wr.heap.size := Nat.lt_of_lt_of_le hbx (Nat.le_trans HB.out.size HBz.out.size)
     have kL : (k : Int) < (xl.length : Int) := by omega
     have kLN : k < xl.length := by omega
     have k8 : (k : Int) < 8 := by omega
     have m63 : bits .and .i64 ya 63 = ya % 64 := i64_mask 6 ya 63 (by omega) rfl
     have ma7 : bits .and .i64 ya 7 = ya % 8 := mask3 ya
     have mb7 : bits .and .i64 yb 7 = yb % 8 := mask3 yb
     have ta : (ya % 8).tmod 6 = ya % 8 % 6 := Int.tmod_eq_emod_of_nonneg (by omega)
     have tb : (yb % 8).tmod 6 = yb % 8 % 6 := Int.tmod_eq_emod_of_nonneg (by omega)
     have wa : IntKind.i64.wrap (ya % 8 % 6) = ya % 8 % 6 := IntWalk.i64_in _ (by omega)
     have wb : IntKind.i64.wrap (yb % 8 % 6) = yb % 8 % 6 := IntWalk.i64_in _ (by omega)
     obtain ⟨q, Hq⟩ : ∃ q, Hid (yo % 5 = q ∧ (q = 0 ∨ q = 1 ∨ q = 2 ∨ q = 3 ∨ q = 4)) := ⟨_, Lib.hid ⟨rfl, by omega⟩⟩
     have tq : yo.tmod 5 = q := by rw [Int.tmod_eq_emod_of_nonneg y0]; exact Hq.out.1
     have wq : IntKind.u8.wrap q = q := by have := Hq.out.2; rw [IntKind.wrap_u8]; omega
     clear hy q0 q1 q2 hop9 hbx hup hsn
     rcases Hq.out.2 with rfl | rfl | rfl | rfl | rfl
     ·go_upto_region 21 with fail
      clear o0 o1 o2 zx s0 zf m63 ma7 mb7 ta tb wa wb tq wq
      refine one_row wr _ _ ?_
      intro w5 hr hb
      have HB5 := Lib.hid hb
      obtain ⟨f0, f1, f2, _⟩ := box3 hr
      have zr := lt_of_heap hr
      have HFo : Hid (fitFo ⟨yo, ya, yb⟩ = (⟨0, ya % 64, 0⟩ : Fo)) := Lib.hid (by have h9 := Hq.out.1; unfold fitFo; simp [h9])
      rw [HFo.out] at HSp
      clear hb hr HFo Hq
      go_upto_region 8 with (at_builtin; refine wpList_append_any _ rfl (.tmp 117) (.tmp 119) _ (by rfl) w1.heap.size 56 i0 _ 3 24 Tryz.underlying54 hi0 hz0 hz1 hz2 rfl (by omega) (.slice Ap k cp) k (((xl.take k).map fitFo).flatMap foCells) (by rfl) (own_below Hown.out (below_only HB5.out (by go_grown))) (some ⟨w5.heap.size, 0, none⟩) 1 1 (foCells (⟨0, ya % 64, 0⟩ : Fo)) (by rfl) rfl (cells_of (row_new _ _ _)) (foCells_one _) (by simp only [maxLen]; omega) (by omega) (by simp; have := HBz.out.size; have := HB5.out.size; omega) ?_; intro v6 w6 hown6 hg6 hat6)
      rw [← HSp.out] at hown6
      obtain ⟨A6, c6, rfl, -, -, -⟩ := own_slice hown6
      have B6 := Lib.hid (Below.grown (below_only (below_only HBz.out HB5.out) (by go_grown)) hg6 (by simp; have := HBz.out.size; have := HB5.out.size; omega) (fun i hi => own_ge Hown.out i hi))
      go_wp2_with fail
      go_roundw
      case rel => exact ⟨k + 1, A6, c6, by omega, rfl, by go_num, hown6, B6.out⟩
      case measure => simp [intOf]; omega
     ·go_upto_region 21 with fail
      clear o0 o1 o2 zx s0 zf m63 ma7 mb7 ta tb wa wb tq wq
      refine one_row wr _ _ ?_
      intro w5 hr hb
      have HB5 := Lib.hid hb
      obtain ⟨f0, f1, f2, _⟩ := box3 hr
      have zr := lt_of_heap hr
      have HFo : Hid (fitFo ⟨yo, ya, yb⟩ = (⟨1, ya % 8 % 6, 0⟩ : Fo)) := Lib.hid (by have h9 := Hq.out.1; unfold fitFo; simp [h9])
      rw [HFo.out] at HSp
      clear hb hr HFo Hq
      go_upto_region 8 with (at_builtin; refine wpList_append_any _ rfl (.tmp 117) (.tmp 119) _ (by rfl) w1.heap.size 56 i0 _ 3 24 Tryz.underlying54 hi0 hz0 hz1 hz2 rfl (by omega) (.slice Ap k cp) k (((xl.take k).map fitFo).flatMap foCells) (by rfl) (own_below Hown.out (below_only HB5.out (by go_grown))) (some ⟨w5.heap.size, 0, none⟩) 1 1 (foCells (⟨1, ya % 8 % 6, 0⟩ : Fo)) (by rfl) rfl (cells_of (row_new _ _ _)) (foCells_one _) (by simp only [maxLen]; omega) (by omega) (by simp; have := HBz.out.size; have := HB5.out.size; omega) ?_; intro v6 w6 hown6 hg6 hat6)
      rw [← HSp.out] at hown6
      obtain ⟨A6, c6, rfl, -, -, -⟩ := own_slice hown6
      have B6 := Lib.hid (Below.grown (below_only (below_only HBz.out HB5.out) (by go_grown)) hg6 (by simp; have := HBz.out.size; have := HB5.out.size; omega) (fun i hi => own_ge Hown.out i hi))
      go_wp2_with fail
      go_roundw
      case rel => exact ⟨k + 1, A6, c6, by omega, rfl, by go_num, hown6, B6.out⟩
      case measure => simp [intOf]; omega
     ·go_upto_region 21 with fail
      clear o0 o1 o2 zx s0 zf m63 ma7 mb7 ta tb wa wb tq wq
      refine one_row wr _ _ ?_
      intro w5 hr hb
      have HB5 := Lib.hid hb
      obtain ⟨f0, f1, f2, _⟩ := box3 hr
      have zr := lt_of_heap hr
      have HFo : Hid (fitFo ⟨yo, ya, yb⟩ = (⟨2, ya % 8 % 6, yb % 8 % 6⟩ : Fo)) := Lib.hid (by have h9 := Hq.out.1; unfold fitFo; simp [h9])
      rw [HFo.out] at HSp
      clear hb hr HFo Hq
      go_upto_region 8 with (at_builtin; refine wpList_append_any _ rfl (.tmp 117) (.tmp 119) _ (by rfl) w1.heap.size 56 i0 _ 3 24 Tryz.underlying54 hi0 hz0 hz1 hz2 rfl (by omega) (.slice Ap k cp) k (((xl.take k).map fitFo).flatMap foCells) (by rfl) (own_below Hown.out (below_only HB5.out (by go_grown))) (some ⟨w5.heap.size, 0, none⟩) 1 1 (foCells (⟨2, ya % 8 % 6, yb % 8 % 6⟩ : Fo)) (by rfl) rfl (cells_of (row_new _ _ _)) (foCells_one _) (by simp only [maxLen]; omega) (by omega) (by simp; have := HBz.out.size; have := HB5.out.size; omega) ?_; intro v6 w6 hown6 hg6 hat6)
      rw [← HSp.out] at hown6
      obtain ⟨A6, c6, rfl, -, -, -⟩ := own_slice hown6
      have B6 := Lib.hid (Below.grown (below_only (below_only HBz.out HB5.out) (by go_grown)) hg6 (by simp; have := HBz.out.size; have := HB5.out.size; omega) (fun i hi => own_ge Hown.out i hi))
      go_wp2_with fail
      go_roundw
      case rel => exact ⟨k + 1, A6, c6, by omega, rfl, by go_num, hown6, B6.out⟩
      case measure => simp [intOf]; omega
     ·go_upto_region 21 with fail
      clear o0 o1 o2 zx s0 zf m63 ma7 mb7 ta tb wa wb tq wq
      refine one_row wr _ _ ?_
      intro w5 hr hb
      have HB5 := Lib.hid hb
      obtain ⟨f0, f1, f2, _⟩ := box3 hr
      have zr := lt_of_heap hr
      have HFo : Hid (fitFo ⟨yo, ya, yb⟩ = (⟨3, ya % 8 % 6, yb % 8⟩ : Fo)) := Lib.hid (by have h9 := Hq.out.1; unfold fitFo; simp [h9])
      rw [HFo.out] at HSp
      clear hb hr HFo Hq
      go_upto_region 8 with (at_builtin; refine wpList_append_any _ rfl (.tmp 117) (.tmp 119) _ (by rfl) w1.heap.size 56 i0 _ 3 24 Tryz.underlying54 hi0 hz0 hz1 hz2 rfl (by omega) (.slice Ap k cp) k (((xl.take k).map fitFo).flatMap foCells) (by rfl) (own_below Hown.out (below_only HB5.out (by go_grown))) (some ⟨w5.heap.size, 0, none⟩) 1 1 (foCells (⟨3, ya % 8 % 6, yb % 8⟩ : Fo)) (by rfl) rfl (cells_of (row_new _ _ _)) (foCells_one _) (by simp only [maxLen]; omega) (by omega) (by simp; have := HBz.out.size; have := HB5.out.size; omega) ?_; intro v6 w6 hown6 hg6 hat6)
      rw [← HSp.out] at hown6
      obtain ⟨A6, c6, rfl, -, -, -⟩ := own_slice hown6
      have B6 := Lib.hid (Below.grown (below_only (below_only HBz.out HB5.out) (by go_grown)) hg6 (by simp; have := HBz.out.size; have := HB5.out.size; omega) (fun i hi => own_ge Hown.out i hi))
      go_wp2_with fail
      go_roundw
      case rel => exact ⟨k + 1, A6, c6, by omega, rfl, by go_num, hown6, B6.out⟩
      case measure => simp [intOf]; omega
     ·go_upto_region 21 with fail
      clear o0 o1 o2 zx s0 zf m63 ma7 mb7 ta tb wa wb tq wq
      refine one_row wr _ _ ?_
      intro w5 hr hb
      have HB5 := Lib.hid hb
      obtain ⟨f0, f1, f2, _⟩ := box3 hr
      have zr := lt_of_heap hr
      have HFo : Hid (fitFo ⟨yo, ya, yb⟩ = (⟨4, 0, 0⟩ : Fo)) := Lib.hid (by have h9 := Hq.out.1; unfold fitFo; simp [h9])
      rw [HFo.out] at HSp
      clear hb hr HFo Hq
      go_upto_region 8 with (at_builtin; refine wpList_append_any _ rfl (.tmp 117) (.tmp 119) _ (by rfl) w1.heap.size 56 i0 _ 3 24 Tryz.underlying54 hi0 hz0 hz1 hz2 rfl (by omega) (.slice Ap k cp) k (((xl.take k).map fitFo).flatMap foCells) (by rfl) (own_below Hown.out (below_only HB5.out (by go_grown))) (some ⟨w5.heap.size, 0, none⟩) 1 1 (foCells (⟨4, 0, 0⟩ : Fo)) (by rfl) rfl (cells_of (row_new _ _ _)) (foCells_one _) (by simp only [maxLen]; omega) (by omega) (by simp; have := HBz.out.size; have := HB5.out.size; omega) ?_; intro v6 w6 hown6 hg6 hat6)
      rw [← HSp.out] at hown6
      obtain ⟨A6, c6, rfl, -, -, -⟩ := own_slice hown6
      have B6 := Lib.hid (Below.grown (below_only (below_only HBz.out HB5.out) (by go_grown)) hg6 (by simp; have := HBz.out.size; have := HB5.out.size; omega) (fun i hi => own_ge Hown.out i hi))
      go_wp2_with fail
      go_roundw
      case rel => exact ⟨k + 1, A6, c6, by omega, rfl, by go_num, hown6, B6.out⟩
      case measure => simp [intOf]; omega
    ·skip
     have hke : min xl.length 8 ≤ k := by omega
     have Hke : Hid (k = min xl.length 8) := Lib.hid (by omega)
     go_upto_region 7 with fail
     try simp only [Act.put]
     go_cut [30] from 20 to 30 (fun vv wx => vv = .bool false ∧ wr = wx)
     case first =>
      by_cases h9 : k < xl.length
      ·have kL : (k : Int) < (xl.length : Int) := by omega
       have k8 : ¬ ((k : Int) < 8) := by omega
       go_wp2_with fail
       go_meet
       exact ⟨rfl, rfl⟩
      ·have kL : ¬ ((k : Int) < (xl.length : Int)) := by omega
       go_wp2_with fail
       go_meet
       exact ⟨rfl, rfl⟩
     case rest =>
      obtain ⟨rfl, hwx⟩ := hcut
      subst hwx
      clear s0 zf hke hkt
      have hlb : ∀ z, Ap = some z → w1.heap.size ≤ z.block ∧ z.block < wr.heap.size := fun z hz => ⟨own_ge Hown.out z.block (by rw [hz]; rfl), own_ltF Hown.out z.block (by rw [hz]; rfl)⟩
      have hlA : ∀ y, A' = some y → y.block < w1.heap.size := fun y hy => own_ltF HFt.out.own y.block (by rw [hy]; rfl)
      have Hlb := Lib.hid (And.intro hlb hlA)
      clear hlb hlA
      have hl8 : ((xl.take 8).map fitFo).length = k := by rw [← take_min xl Hke.out]; simp; have := Hke.out; omega
      have Hl8 := Lib.hid hl8
      have HOw : Hid (wr.ownsRow w.heap.size 54 1 (.slice A' i c') i (fl'.flatMap fslCells)) := Lib.hid (by have h9 := (HFt.out.below HBz.out).own; rw [Hlen.out] at h9; exact h9)
      clear hl8
      go_upto_region 4 with (at_builtin; refine wpList_append_any _ rfl (.tmp 121) (.tmp 123) _ (by rfl) w.heap.size 54 j0 _ 1 24 Tryz.underlying22 hj0 hy0 hy1 hy2 rfl (by omega) (.slice A' i c') i (fl'.flatMap fslCells) (by rfl) (own_below HOw.out (by go_grown)) (some ⟨wr.heap.size, 0, none⟩) 1 1 [.slice Ap k cp] (by rfl) rfl (cells_of (row_new _ _ _)) (by intro u hu; simp at hu; subst hu; rfl) (by simp only [maxLen]; omega) (by omega) (by simp; have := HBz.out.size; have := HB.out.size; omega) ?_; intro v6 w6 hown6 hg6 hat6)
      obtain ⟨A6, c6, rfl, -, -, -⟩ := own_slice hown6
      have hba : Below wr.heap.size wr (wr.alloc (.cells #[.slice Ap k cp] 54)) := by go_grown
      have hft := (HFt.out.below HBz.out).below hba
      have hx9 : FtAt w.heap.size (wr.alloc (.cells #[.slice Ap k cp] 54)) A' ⟨Ap, cp, (xl.take 8).map fitFo⟩ := by
       refine ⟨?_, fun z hz => ⟨?_, ?_⟩, fun z y hz hy => ?_⟩
       ·have h9 := own_below (own_weak Hown.out HB.out.size) hba
        rw [take_min xl Hke.out] at h9
        show (wr.alloc _).ownsRow _ _ _ (.slice Ap ((xl.take 8).map fitFo).length cp) ((xl.take 8).map fitFo).length _
        rw [Hl8.out]
        exact h9
       ·exact Nat.le_trans HB.out.size (Hlb.out.1 z hz).1
       ·exact Nat.lt_of_lt_of_le (Hlb.out.1 z hz).2 hba.size
       ·have h1 := Hlb.out.2 y hy
        have h2 := (Hlb.out.1 z hz).1
        omega
      have hs9 := FtsAt.snoc (p := xl) (A' := A6) (c' := c6) hft hx9 rfl (fun y hy z u hz hu => by have h1 := ((HFt.out.at_ y hy).lo z hz).2; have h2 := (Hlb.out.1 u hu).1; omega) (by rw [Hlen.out]; show w6.ownsRow _ _ _ _ _ (fl'.flatMap fslCells ++ [.slice Ap ((xl.take 8).map fitFo).length cp]); rw [Hl8.out]; exact hown6) (by rw [Hlen.out]; exact hg6) (by rw [Hlen.out]; exact hat6)
      rw [← HSn.out] at hs9
      have Hs9 := Lib.hid hs9
      have B6 := Lib.hid (Below.grown (below_only (below_only HB.out HBz.out) hba) hg6 (by simp; have := HBz.out.size; have := HB.out.size; omega) (fun i hi => own_ge HOw.out i hi))
      have Hk6 : Hid (fl'.length + 1 = i + 1) := Lib.hid (by rw [Hlen.out])
      clear hs9 hx9 hft hba hown6 hg6 hat6
      go_wp2_with fail
      go_roundw
      case rel => exact ⟨i + 1, A6, c6, fl' ++ [⟨Ap, cp, (xl.take 8).map fitFo⟩], by omega, rfl, by go_num, by rw [List.length_append]; exact Hk6.out, Hs9.out, B6.out⟩
      case measure => simp [intOf]; omega
  ·skip
   have hke : min fl.length 8 ≤ i := by omega
   have Hke : Hid (i = min fl.length 8) := Lib.hid (by omega)
   obtain ⟨wr, hwr⟩ : ∃ x, x = w1 := ⟨_, rfl⟩
   subst hwr
   go_upto_region 3 with fail
   try simp only [Act.put]
   go_cut [16] from 9 to 16 (fun vv wx => vv = .bool false ∧ wr = wx)
   case first =>
    by_cases h9 : i < fl.length
    ·have kL : (i : Int) < (fl.length : Int) := by omega
     have k8 : ¬ ((i : Int) < 8) := by omega
     go_wp2_with fail
     go_meet
     exact ⟨rfl, rfl⟩
    ·have kL : ¬ ((i : Int) < (fl.length : Int)) := by omega
     go_wp2_with fail
     go_meet
     exact ⟨rfl, rfl⟩
   case rest =>
    obtain ⟨rfl, hwx⟩ := hcut
    subst hwx
    clear hke hlt
    go_wp2_with fail
    go_ret
    refine ⟨A', c', fl', by rw [Hlen.out]; rfl, ?_, HB.out⟩
    have h9 := HFt.out
    rw [take_min (fsL fl) (k := i) (by rw [Hke.out]; simp)] at h9
    exact h9
end Go.Proofs.YtbijaloeilnjoaaGreat

namespace Go.Proofs.YtbijaloeilnjoaaGreat
open Go.RowKit Go.ChangeShapes Go.WideShapes Go.Deep
set_option linter.unusedVariables false

structure FoIn (o : Fo) : Prop where
 op : 0 ≤ o.op ∧ o.op ≤ 255
 a : -9223372036854775808 ≤ o.a ∧ o.a ≤ 9223372036854775807
 b : -9223372036854775808 ≤ o.b ∧ o.b ≤ 9223372036854775807
structure FslOk (w : World) (x : FSl) : Prop where
 e : Cells w x.a (x.l.flatMap foCells)
 o : ∀ o ∈ x.l, FoIn o
 n : x.l.length ≤ x.c ∧ x.c ≤ maxLen
section
variable {H : Type} {enc : TypeId × Value → H} {w : World} {base : Nat} {spare : Nat → Bool} {held : Bool}
set_option maxRecDepth 100000 in
theorem fo_of_trod (n : Nat) (cs : List Value) (y : DataW H × List MemPlace) (h : DataW.trod enc Tryz.prog w base spare held n 56 cs = some y) : ∃ c : Fo, cs = foCells c ∧ FoIn c := by
 obtain ⟨xs, m, _, _, hl, hxl, hi⟩ := DataW.trod_struct Tryz.underlying56 h
 have hl7 : cs.length = 3 := hl.trans (by kernel_rfl)
 have hx7 : xs.length = 3 := hxl
 have k0 : Tryz.prog.cellsOf 5 = 1 := by kernel_rfl
 have k1 : Tryz.prog.cellsOf 3 = 1 := by kernel_rfl
 match cs, hl7, xs, hx7 with
 | [c0, c1, c2], _, [x0, x1, x2], _ =>
  have h0 : DataW.trod enc Tryz.prog w base spare held m 5 (([c0, c1, c2].drop 0).take (Tryz.prog.cellsOf 5)) = some x0 := hi 0 _ rfl
  have h1 : DataW.trod enc Tryz.prog w base spare held m 3 (([c0, c1, c2].drop 1).take (Tryz.prog.cellsOf 3)) = some x1 := hi 1 _ rfl
  have h2 : DataW.trod enc Tryz.prog w base spare held m 3 (([c0, c1, c2].drop 2).take (Tryz.prog.cellsOf 3)) = some x2 := hi 2 _ rfl
  rw [k0] at h0
  rw [k1] at h1 h2
  obtain ⟨a0, e0, _, w0⟩ := DataW.trod_int Tryz.underlying5 h0
  obtain ⟨a1, e1, _, w1⟩ := DataW.trod_int Tryz.underlying3 h1
  obtain ⟨a2, e2, _, w2⟩ := DataW.trod_int Tryz.underlying3 h2
  simp at e0 e1 e2
  subst e0 e1 e2
  exact ⟨⟨a0, a1, a2⟩, rfl, ⟨wf_u8 w0, wf_int w1, wf_int w2⟩⟩
set_option maxRecDepth 100000 in
theorem fsl_of_trod (n : Nat) (cs : List Value) (y : DataW H × List MemPlace) (h : DataW.trod enc Tryz.prog w base spare held n 54 cs = some y) : ∃ x : FSl, cs = fslCells x ∧ FslOk w x := by
 have hs : ∃ A k c, cs = [Value.slice A k c] := by
  rcases open_slice Tryz.underlying54 h with ⟨h0, _⟩ | ⟨a, len, cap, m, k, D, Pl, hcs, _⟩
  ·exact ⟨_, _, _, h0⟩
  ·exact ⟨_, _, _, hcs⟩
 obtain ⟨A, k, c, rfl⟩ := hs
 obtain ⟨l, rfl, hc, hm, he, hq⟩ := rows_of (size := 3) foCells FoIn (by decide) (fun _ => rfl) Tryz.underlying54 (by kernel_rfl) (fo_of_trod (enc := enc) (w := w)) h
 exact ⟨⟨A, c, l⟩, rfl, ⟨he, hq, hc, hm⟩⟩
set_option maxRecDepth 100000 in
theorem oj_of_trod (n : Nat) (cs : List Value) (y : DataW H × List MemPlace) (h : DataW.trod enc Tryz.prog w base spare held n 70 cs = some y) : ∃ c : Oj, cs = jCells c ∧ OjOk c := by
 obtain ⟨xs, m, _, _, hl, hxl, hi⟩ := DataW.trod_struct Tryz.underlying70 h
 have hl7 : cs.length = 4 := hl.trans (by kernel_rfl)
 have hx7 : xs.length = 4 := hxl
 have k0 : Tryz.prog.cellsOf 5 = 1 := by kernel_rfl
 have k1 : Tryz.prog.cellsOf 4 = 1 := by kernel_rfl
 match cs, hl7, xs, hx7 with
 | [c0, c1, c2, c3], _, [x0, x1, x2, x3], _ =>
  have h0 : DataW.trod enc Tryz.prog w base spare held m 5 (([c0, c1, c2, c3].drop 0).take (Tryz.prog.cellsOf 5)) = some x0 := hi 0 _ rfl
  have h1 : DataW.trod enc Tryz.prog w base spare held m 5 (([c0, c1, c2, c3].drop 1).take (Tryz.prog.cellsOf 5)) = some x1 := hi 1 _ rfl
  have h2 : DataW.trod enc Tryz.prog w base spare held m 5 (([c0, c1, c2, c3].drop 2).take (Tryz.prog.cellsOf 5)) = some x2 := hi 2 _ rfl
  have h3 : DataW.trod enc Tryz.prog w base spare held m 4 (([c0, c1, c2, c3].drop 3).take (Tryz.prog.cellsOf 4)) = some x3 := hi 3 _ rfl
  rw [k0] at h0 h1 h2
  rw [k1] at h3
  obtain ⟨a0, e0, _, w0⟩ := DataW.trod_int Tryz.underlying5 h0
  obtain ⟨a1, e1, _, w1⟩ := DataW.trod_int Tryz.underlying5 h1
  obtain ⟨a2, e2, _, w2⟩ := DataW.trod_int Tryz.underlying5 h2
  obtain ⟨a3, e3, _⟩ := DataW.trod_bool Tryz.underlying4 h3
  simp at e0 e1 e2 e3
  subst e0 e1 e2 e3
  exact ⟨⟨a0, a1, a2, a3⟩, rfl, ⟨wf_u8 w0, wf_u8 w1, wf_u8 w2⟩⟩
end
theorem finsAt_in {w : World} {A : Option Addr} {l : List FSl} (he : Cells w A (l.flatMap fslCells)) (hq : ∀ x ∈ l, FslOk w x) : FinsAt w A l := ⟨he, fun x hx => (hq x hx).e⟩
end Go.Proofs.YtbijaloeilnjoaaGreat
