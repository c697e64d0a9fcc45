/- The law ChainPushes's walk. -/
import Derived.Test.YthfjdgdpghepoaaPushPlain
import Derived.Deep.RegionLaw
import Derived.Deep.RegionWith
import Derived.Deep.RegionHeld3
import Derived.BigQuiet
import Derived.Deep.Cut
import Derived.Deep.CutRange
import Derived.Deep.CutBlock
namespace Go.Proofs.Ythfjdgdpghepoaa
open Go.RowKit

theorem wpAny_take_at {P : Program} {md : Region.Mode} {ops : Array Oper} {Q : Exit → Act → World → Prop} {i : Nat} {oi : Oper} {v : Value} {fuel : Nat} {listed : Array Bool} {a : Act} {w : World} (d : Option Tmp) (hi : ops[i]? = some oi) (hd : oi.dst = d)
    (hs : Region.noSelect ops = true) (hf : Region.free md ops listed i = true) (hr : (Region.ready md ops listed).contains i = true)
    (hQ : ∀ c a w, Q (.panic c) (a.put d v) w → Q (.panic c) a w) (hy : Yields P ops oi v a)
    (h : wpAny P md ops Q fuel (listed.setIfInBounds i true) (a.put d v) w) : wpAny P md ops Q (fuel + 1) listed a w := by
  subst hd
  exact wpAny_take hi hs hf hr hQ hy h
def lenOf : Value → Nat
  | .slice _ n _ => n
  | _ => 0
theorem step_skip {c : Bool} {X E : Prop} (hw : c = false) (h : E) : if c = true then X else E := by
  subst hw
  simpa using h

theorem same_self (A B : Option Addr) (c d : Nat) (l : List Ent) (w : World) (hl : l.length ≤ 9223372036854775807) (ha : Ents w A l) (hb : Ents w B l) :
    Calls Try.prog 16 #[.slice A l.length c, .slice B l.length d] w fun e w' => e = .returned (.bool true) ∧ Below w.heap.size w w' :=
  (same_any A B c d l l w hl hl ha hb).mono fun e w' ⟨he, hb⟩ => ⟨by rw [he]; simp, hb⟩

set_option maxRecDepth 100000 in
set_option maxHeartbeats 20000000 in
theorem chainPushes_core (A : Option Addr) (k : Nat) (l : List Ent) (n a b : Int) (w : World) (hl : l.length ≤ 9223372036854775807) (he : Cells w A (l.flatMap entCells))
    (n0 : 0 ≤ n) (n1 : n ≤ 255) (a0 : 0 ≤ a) (a1 : a ≤ 255) (b0 : 0 ≤ b) (b1 : b ≤ 255) :
    Calls Try.prog 7 #[.slice A l.length k, .int .u8 n, .agg #[.int .u8 a, .int .u8 b]] w fun e w' => e = .returned (.bool true) ∧ Below w.heap.size w w' := by
  obtain ⟨hgood, hlen⟩ := fit_good l
  obtain ⟨M, HM⟩ : ∃ M, Hid (fit l = M) := ⟨_, rfl⟩
  rw [HM.out] at hgood hlen
  obtain ⟨P, HPe⟩ : ∃ P, Hid (M ++ [(1 + n % 7, true)] = P) := ⟨_, rfl⟩
  have hPl : P.length = M.length + 1 := by rw [← HPe.out]; simp
  have HP := Lib.hid (show push M (1 + n % 7, true) = (P, 0) by rw [push, if_neg (by omega), HPe.out])
  have HP1 := Lib.hid (show (push M (1 + n % 7, true)).1 = P by rw [HP.out])
  have HP2 := Lib.hid (show (push M (1 + n % 7, true)).2 = 0 by rw [HP.out])
  have HQ1 := Lib.hid (show (pop P).1 = M by rw [← HPe.out]; simp [pop])
  have HQ2 := Lib.hid (show (pop P).2.1.1 = 1 + n % 7 by rw [← HPe.out]; simp [pop])
  have HQ3 := Lib.hid (show (pop P).2.1.2 = true by rw [← HPe.out]; simp [pop])
  have HQ4 := Lib.hid (show (pop P).2.2 = 0 by rw [← HPe.out]; simp [pop])
  have areaP : area P = 1 + n % 7 := by rw [← HPe.out, area_app]
  have reachP : reach P (1 + n % 7) = true := by rw [← HPe.out]; exact push_reach _ _
  have Hab := Lib.hid (show reach M (b % 8) = true → above P (a % 8) (b % 8) = above M (a % 8) (b % 8) by rw [← HPe.out]; exact push_above hgood _ (by omega) _ _)
  have Hnew := Lib.hid (show reach M (1 + n % 7) = false → par P (1 + n % 7) = area M ∧ above P (area M) (1 + n % 7) = true by rw [← HPe.out]; exact push_new _ _)
  have HPr := Lib.hid (show ∀ r, reach M (a % 8) = true → reach (P ++ r) (a % 8) = true by rw [← HPe.out]; intro r h; exact reach_app _ _ _ (reach_app _ _ _ h))
  have hM : M.length ≤ 9223372036854775807 := by omega
  have hP : P.length ≤ 9223372036854775807 := by omega
  have hP6 : P.length ≤ 6 := by omega
  have HPl := Lib.hid hPl
  clear hgood hPl
  have Hs := Lib.hid (show (w.alloc (.cells #[.int .u8 a, .int .u8 b] 44)).heap[w.heap.size]? = some (.cells #[.int .u8 a, .int .u8 b] 44 (0, 0)) from row_new _ _ _)
  have B0 : Below w.heap.size w (w.alloc (.cells #[.int .u8 a, .int .u8 b] 44)) := by go_grown
  go_enter Try.func7, Try.ntmps7
  replace he := Cells.alloc he (.cells #[.int .u8 a, .int .u8 b] 44)
  go_wp2_with fail
  have BB := B0
  have Rs := Hs.out
  refine (shown_any _).mono ?_
  rintro e w1 ⟨rfl, hb⟩
  have B1 := below_only BB hb
  replace Rs := row_below Rs hb
  replace he := Cells.below he hb
  clear B0 BB hb Hs
  obtain ⟨s_0, s_1, s_f0, s_f1⟩ := box2 Rs
  have Hs := Lib.hid Rs; clear Rs
  have z_s := lt_of_heap Hs.out
  go_wp2_with fail
  have BB := B1
  have Rs := Hs.out
  clear s_0 s_1 s_f0 s_f1 z_s
  refine (fit_any A k l _ hl he).mono ?_
  rintro e w2 ⟨v1, rfl, A1, c1, rfl, hc1, hcs1, _, hb⟩
  rw [HM.out] at hc1 hcs1 ⊢
  have B2 := below_only BB hb
  replace Rs := row_below Rs hb
  replace he := Cells.below he hb
  clear B1 BB hb Hs
  obtain ⟨s_0, s_1, s_f0, s_f1⟩ := box2 Rs
  have Hs := Lib.hid Rs; clear Rs
  have z_s := lt_of_heap Hs.out
  go_wp2_with fail
  have BB := B2
  have Rs := Hs.out
  clear s_0 s_1 s_f0 s_f1 z_s
  refine (fit_any A k l _ hl he).mono ?_
  rintro e w3 ⟨v2, rfl, A2, c2, rfl, hc2, hcs2, _, hb⟩
  rw [HM.out] at hc2 hcs2 ⊢
  have B3 := below_only BB hb
  replace Rs := row_below Rs hb
  replace he := Cells.below he hb
  replace hcs1 := Cells.below hcs1 hb
  clear B2 BB hb Hs
  obtain ⟨s_0, s_1, s_f0, s_f1⟩ := box2 Rs
  have Hs := Lib.hid Rs; clear Rs
  have z_s := lt_of_heap Hs.out
  go_wp2_with fail
  have BB := (B3.alloc B3.size (.cells #[.int .i64 (1 + n % 7), .bool true] 34))
  have Rs := row_alloc (o' := .cells #[.int .i64 (1 + n % 7), .bool true] 34) (Hs.out)
  have Re := row_new w3 #[.int .i64 (1 + n % 7), .bool true] 34
  replace hcs1 := (Cells.alloc hcs1 (.cells #[.int .i64 (1 + n % 7), .bool true] 34))
  replace hcs2 := (Cells.alloc hcs2 (.cells #[.int .i64 (1 + n % 7), .bool true] 34))
  clear s_0 s_1 s_f0 s_f1 z_s he
  refine (push_any A1 c1 M (1 + n % 7) true _ (by omega) hcs1).mono ?_
  rintro e w4 ⟨v3, rfl, A3, c3, rfl, hc3, hcs3, _, hb⟩
  rw [HP1.out] at hc3 hcs3
  rw [HP1.out, HP2.out]
  have B4 := below_only BB hb
  replace Rs := row_below Rs hb
  replace Re := row_below Re hb
  replace hcs1 := Cells.below hcs1 hb
  replace hcs2 := Cells.below hcs2 hb
  clear B3 BB hb Hs
  obtain ⟨s_0, s_1, s_f0, s_f1⟩ := box2 Rs
  have Hs := Lib.hid Rs; clear Rs
  obtain ⟨e_0, e_1, e_f0, e_f1⟩ := box2 Re
  have He := Lib.hid Re; clear Re
  have z_s := lt_of_heap Hs.out
  have z_e := lt_of_heap He.out
  go_wp2_with fail
  have BB := B4
  have Rs := Hs.out
  have Re := He.out
  clear s_0 s_1 s_f0 s_f1 e_0 e_1 e_f0 e_f1 z_s z_e
  refine (pop_any A3 c3 P _ (by omega) hc3 hcs3).mono ?_
  rintro e w5 ⟨v4, rfl, A4, c4, rfl, hc4, hcs4, _, hb⟩
  rw [HQ1.out] at hc4 hcs4
  rw [HQ1.out, HQ2.out, HQ3.out, HQ4.out]
  have B5 := below_only BB hb
  replace Rs := row_below Rs hb
  replace Re := row_below Re hb
  replace hcs1 := Cells.below hcs1 hb
  replace hcs2 := Cells.below hcs2 hb
  replace hcs3 := Cells.below hcs3 hb
  clear B4 BB hb Hs He
  obtain ⟨s_0, s_1, s_f0, s_f1⟩ := box2 Rs
  have Hs := Lib.hid Rs; clear Rs
  obtain ⟨e_0, e_1, e_f0, e_f1⟩ := box2 Re
  have He := Lib.hid Re; clear Re
  have z_s := lt_of_heap Hs.out
  have z_e := lt_of_heap He.out
  go_wp2_with fail
  have BB := (B5.alloc B5.size (.cells #[.int .i64 (1 + n % 7), .bool true] 34))
  have Rs := row_alloc (o' := .cells #[.int .i64 (1 + n % 7), .bool true] 34) (Hs.out)
  have Re := row_alloc (o' := .cells #[.int .i64 (1 + n % 7), .bool true] 34) (He.out)
  have Rx := row_new w5 #[.int .i64 (1 + n % 7), .bool true] 34
  replace hcs1 := (Cells.alloc hcs1 (.cells #[.int .i64 (1 + n % 7), .bool true] 34))
  replace hcs2 := (Cells.alloc hcs2 (.cells #[.int .i64 (1 + n % 7), .bool true] 34))
  replace hcs3 := (Cells.alloc hcs3 (.cells #[.int .i64 (1 + n % 7), .bool true] 34))
  replace hcs4 := (Cells.alloc hcs4 (.cells #[.int .i64 (1 + n % 7), .bool true] 34))
  clear s_0 s_1 s_f0 s_f1 e_0 e_1 e_f0 e_f1 z_s z_e
  refine (same_self A4 A1 c4 c1 M _ hM hcs4 hcs1).mono ?_
  rintro e w6 ⟨rfl, hb⟩
  have B6 := below_only BB hb
  replace Rs := row_below Rs hb
  replace Re := row_below Re hb
  replace Rx := row_below Rx hb
  replace hcs1 := Cells.below hcs1 hb
  replace hcs2 := Cells.below hcs2 hb
  replace hcs3 := Cells.below hcs3 hb
  replace hcs4 := Cells.below hcs4 hb
  clear B5 BB hb Hs He
  obtain ⟨s_0, s_1, s_f0, s_f1⟩ := box2 Rs
  have Hs := Lib.hid Rs; clear Rs
  obtain ⟨e_0, e_1, e_f0, e_f1⟩ := box2 Re
  have He := Lib.hid Re; clear Re
  obtain ⟨x_0, x_1, x_f0, x_f1⟩ := box2 Rx
  have Hx := Lib.hid Rx; clear Rx
  have z_s := lt_of_heap Hs.out
  have z_e := lt_of_heap He.out
  have z_x := lt_of_heap Hx.out
  go_wp2_with fail
  have BB := B6
  have Rs := Hs.out
  have Re := He.out
  have Rx := Hx.out
  clear s_0 s_1 s_f0 s_f1 e_0 e_1 e_f0 e_f1 x_0 x_1 x_f0 x_f1 z_s z_e z_x hcs4
  refine (same_self A1 A2 c1 c2 M _ hM hcs1 hcs2).mono ?_
  rintro e w7 ⟨rfl, hb⟩
  have B7 := below_only BB hb
  replace Rs := row_below Rs hb
  replace Re := row_below Re hb
  replace Rx := row_below Rx hb
  replace hcs1 := Cells.below hcs1 hb
  replace hcs2 := Cells.below hcs2 hb
  replace hcs3 := Cells.below hcs3 hb
  clear B6 BB hb Hs He Hx
  obtain ⟨s_0, s_1, s_f0, s_f1⟩ := box2 Rs
  have Hs := Lib.hid Rs; clear Rs
  obtain ⟨e_0, e_1, e_f0, e_f1⟩ := box2 Re
  have He := Lib.hid Re; clear Re
  obtain ⟨x_0, x_1, x_f0, x_f1⟩ := box2 Rx
  have Hx := Lib.hid Rx; clear Rx
  have z_s := lt_of_heap Hs.out
  have z_e := lt_of_heap He.out
  have z_x := lt_of_heap Hx.out
  go_wp2_with fail
  go_region_held3 (Old w7) ((go_split_ands; refine old_of ?_; first | (go_grown; done) | (refine below_only ?_ (by assumption); go_grown; done))) (first | (go_at_call 13; refine (area_any _ _ P _ hP (Cells.drew hcs3)).mono ?_; rintro r w71 ⟨rfl, rfl⟩) | (go_at_call 11; refine (reach_any _ _ P _ _ hP (Cells.drew hcs3)).mono ?_; rintro r w8 ⟨rfl, hb⟩))
  have B := below_only B7.drew hb
  replace hcs1 : Ents w8 A1 M := Cells.below (Cells.drew hcs1) hb
  replace hcs3 : Ents w8 A3 P := Cells.below (Cells.drew hcs3) hb
  have He := Lib.hid (row_below (heap_drew He.out) hb)
  clear B7 hb Hs Hx e_0 e_1 e_f0 e_f1 s_0 s_1 s_f0 s_f1 x_0 x_1 x_f0 x_f1 z_s z_e z_x
  have e_0 := (box2 He.out).1
  have e_1 := (box2 He.out).2.1
  have HC1 := Lib.hid hcs1
  have HC3 := Lib.hid hcs3
  have HB8 := Lib.hid B
  clear B
  go_upto_region 13 with fail
  go_cut [107] from 94 to 107 (fun v wx => v = .bool false ∧ Below w8.heap.size w8 wx)
  case first =>
    have O := Below.refl w8.heap.size w8
    cases hrb : reach M (b % 8) with
    | false =>
      go_wp2_with (go_at_call 11; refine (reach_any A1 c1 M _ _ hM hcs1).mono ?_; rintro r w9 ⟨rfl, hb⟩; replace O := below_only O hb; replace hcs1 := Ents.below hcs1 hb; replace hcs3 := Ents.below hcs3 hb; clear hb)
      go_meet
      exact ⟨rfl, O⟩
    | true =>
      have hab := Hab.out hrb
      go_wp2_with (first | (go_at_call 11; refine (reach_any A1 c1 M _ _ hM hcs1).mono ?_; rintro r w9 ⟨rfl, hb⟩; replace O := below_only O hb; replace hcs1 := Ents.below hcs1 hb; replace hcs3 := Ents.below hcs3 hb; clear hb) | (go_at_call 10; with_reducible refine (above_any A1 c1 M _ _ _ hM hc1 hcs1).mono ?_; rintro r w9 ⟨rfl, hb⟩; replace O := below_only O hb; replace hcs1 := Ents.below hcs1 hb; replace hcs3 := Ents.below hcs3 hb; clear hb) | (go_at_call 10; with_reducible refine (above_any A3 c3 P _ _ _ hP hc3 hcs3).mono ?_; rintro r w9 ⟨rfl, hb⟩; rw [hab]; replace O := below_only O hb; replace hcs1 := Ents.below hcs1 hb; replace hcs3 := Ents.below hcs3 hb; clear hb))
      go_meet
      exact ⟨by first | rfl | simp, O⟩
  case rest =>
    obtain ⟨rfl, hbc⟩ := hcut
    have HBc := Lib.hid (below_only HB8.out hbc)
    have HC1c := Lib.hid (Ents.below HC1.out hbc)
    have HC3c := Lib.hid (Ents.below HC3.out hbc)
    have hcs1 := HC1c.out
    have hcs3 := HC3c.out
    have Hec := Lib.hid (row_below He.out hbc)
    clear hbc e_0 e_1
    obtain ⟨e_0, e_1, _, _⟩ := box2 Hec.out
    have z_e := lt_of_heap Hec.out
    go_upto_region 15 with fail
    go_cut [130] from 108 to 130 (fun v wx => v = .bool false ∧ Below wc.heap.size wc wx)
    case first =>
      cases hrt : reach M (1 + n % 7) with
      | false =>
        obtain ⟨hpar, habv⟩ := Hnew.out hrt
        go_region_held3 (Old wc) ((go_split_ands; refine old_of ?_; first | (go_grown; done) | assumption | (refine below_only ?_ (by assumption); go_grown; done))) (first | (go_at_call 11; refine (reach_any A1 c1 M _ _ hM (Cells.drew hcs1)).mono ?_; rintro r w10 ⟨rfl, hb10⟩; rw [hrt]; have o10 := below_only (Below.refl wc.heap.size wc).drew hb10) | (go_at_call 14; refine (par_any A3 c3 P _ _ hP hc3 (Cells.below (Cells.drew hcs3) hb10)).mono ?_; rintro r w11 ⟨rfl, hb11⟩; rw [hpar]; have o11 := below_only o10 hb11) | (go_at_call 13; refine (area_any A1 c1 M _ hM (Cells.below (Cells.below (Cells.drew hcs1) hb10) hb11)).mono ?_; rintro r w111 ⟨rfl, rfl⟩) | (go_at_call 10; refine (above_any A3 c3 P _ _ _ hP hc3 (Cells.below (Cells.below (Cells.drew hcs3) hb10) hb11)).mono ?_; rintro r w12 ⟨rfl, hb12⟩; rw [habv]; have o12 := below_only o11 hb12))
        have O := Lib.hid o12
        clear hb10 o10 hb11 o11 hb12 o12
        go_wp2_with fail
        go_meet
        exact ⟨by first | rfl | simp, O.out⟩
      | true =>
        refine wp_region_any (by kernel_rfl) ?_
        try (change wpAny _ _ _ _ _ _ _ (World.drew _))
        refine wpAny_take_at (i := 0) (v := ?v0) (some 108) rfl rfl (by kernel_rfl) (by kernel_rfl) (by kernel_rfl) (fun _ _ _ h => h) (Or.inl ⟨by kernel_rfl, ?h0⟩) ?r0
        case h0 => (intro w; go_simp; first | done | (with_reducible rfl))
        try simp only [Act.put]
        try simp only [List.setIfInBounds_toArray]
        try simp only [List.set_cons_succ]
        try simp only [List.set_cons_zero]
        refine wpAny_take_at (i := 1) (v := ?v1) (some 109) rfl rfl (by kernel_rfl) (by kernel_rfl) (by kernel_rfl) (fun _ _ _ h => h) (Or.inl ⟨by kernel_rfl, ?h1⟩) ?r1
        case h1 => (intro w; go_simp; first | done | (with_reducible rfl))
        try simp only [Act.put]
        try simp only [List.setIfInBounds_toArray]
        try simp only [List.set_cons_succ]
        try simp only [List.set_cons_zero]
        refine wpAny_ready (rs := [2]) (by kernel_rfl) (by simp) ?_
        refine AllReady.cons rfl (fun K hK => ?_) AllReady.nil
        go_simp
        refine hK _ _ ?_
        clear hK K
        refine wpAny_ready (rs := [3]) (by kernel_rfl) (by simp) ?_
        refine AllReady.cons rfl (fun K hK => ?_) AllReady.nil
        go_simp
        (go_at_call 11; refine (reach_any A1 c1 M _ _ hM (Cells.drew hcs1)).mono ?_; rintro r w10 ⟨rfl, hb10⟩; rw [hrt]; have o10 := below_only (Below.refl wc.heap.size wc).drew hb10)
        dsimp only
        refine hK _ _ ?_
        clear hK K
        try simp only [Act.put]
        try simp only [List.setIfInBounds_toArray]
        try simp only [List.set_cons_succ]
        try simp only [List.set_cons_zero]
  
        refine wpAny_take_at (i := 4) (v := ?v4) (some 112) rfl rfl (by kernel_rfl) (by kernel_rfl) (by kernel_rfl) (fun _ _ _ h => h) (Or.inl ⟨by kernel_rfl, ?h4⟩) ?r4
        case h4 => (intro w; go_simp; first | done | (with_reducible rfl))
        try simp only [Act.put]
        try simp only [List.setIfInBounds_toArray]
        try simp only [List.set_cons_succ]
        try simp only [List.set_cons_zero]
        refine wpAny_take_at (i := 5) (v := ?v5) (some 113) rfl rfl (by kernel_rfl) (by kernel_rfl) (by kernel_rfl) (fun _ _ _ h => h) (Or.inl ⟨by kernel_rfl, ?h5⟩) ?r5
        case h5 => (intro w; go_simp; first | done | (with_reducible rfl))
        try simp only [Act.put]
        try simp only [List.setIfInBounds_toArray]
        try simp only [List.set_cons_succ]
        try simp only [List.set_cons_zero]
        refine wpAny_take_at (i := 6) (v := undef) (some 114) rfl rfl (by kernel_rfl) (by kernel_rfl) (by kernel_rfl) (fun _ _ _ h => h) (Or.inr ⟨by kernel_rfl, rfl⟩) ?_
        try simp only [Act.put]
        try simp only [List.setIfInBounds_toArray]
        try simp only [List.set_cons_succ]
        try simp only [List.set_cons_zero]
        refine wpAny_take_at (i := 7) (v := undef) (some 115) rfl rfl (by kernel_rfl) (by kernel_rfl) (by kernel_rfl) (fun _ _ _ h => h) (Or.inr ⟨by kernel_rfl, rfl⟩) ?_
        try simp only [Act.put]
        try simp only [List.setIfInBounds_toArray]
        try simp only [List.set_cons_succ]
        try simp only [List.set_cons_zero]
        refine wpAny_take_at (i := 8) (v := undef) (some 116) rfl rfl (by kernel_rfl) (by kernel_rfl) (by kernel_rfl) (fun _ _ _ h => h) (Or.inr ⟨by kernel_rfl, rfl⟩) ?_
        try simp only [Act.put]
        try simp only [List.setIfInBounds_toArray]
        try simp only [List.set_cons_succ]
        try simp only [List.set_cons_zero]
        refine wpAny_take_at (i := 9) (v := undef) (some 117) rfl rfl (by kernel_rfl) (by kernel_rfl) (by kernel_rfl) (fun _ _ _ h => h) (Or.inr ⟨by kernel_rfl, rfl⟩) ?_
        try simp only [Act.put]
        try simp only [List.setIfInBounds_toArray]
        try simp only [List.set_cons_succ]
        try simp only [List.set_cons_zero]
        refine wpAny_take_at (i := 10) (v := undef) (some 118) rfl rfl (by kernel_rfl) (by kernel_rfl) (by kernel_rfl) (fun _ _ _ h => h) (Or.inr ⟨by kernel_rfl, rfl⟩) ?_
        try simp only [Act.put]
        try simp only [List.setIfInBounds_toArray]
        try simp only [List.set_cons_succ]
        try simp only [List.set_cons_zero]
        refine wpAny_take_at (i := 11) (v := undef) (some 119) rfl rfl (by kernel_rfl) (by kernel_rfl) (by kernel_rfl) (fun _ _ _ h => h) (Or.inr ⟨by kernel_rfl, rfl⟩) ?_
        try simp only [Act.put]
        try simp only [List.setIfInBounds_toArray]
        try simp only [List.set_cons_succ]
        try simp only [List.set_cons_zero]
        refine wpAny_take_at (i := 12) (v := undef) (some 120) rfl rfl (by kernel_rfl) (by kernel_rfl) (by kernel_rfl) (fun _ _ _ h => h) (Or.inr ⟨by kernel_rfl, rfl⟩) ?_
        try simp only [Act.put]
        try simp only [List.setIfInBounds_toArray]
        try simp only [List.set_cons_succ]
        try simp only [List.set_cons_zero]
        refine wpAny_take_at (i := 13) (v := undef) (some 121) rfl rfl (by kernel_rfl) (by kernel_rfl) (by kernel_rfl) (fun _ _ _ h => h) (Or.inr ⟨by kernel_rfl, rfl⟩) ?_
        try simp only [Act.put]
        try simp only [List.setIfInBounds_toArray]
        try simp only [List.set_cons_succ]
        try simp only [List.set_cons_zero]
        refine wpAny_take_at (i := 14) (v := undef) (some 122) rfl rfl (by kernel_rfl) (by kernel_rfl) (by kernel_rfl) (fun _ _ _ h => h) (Or.inr ⟨by kernel_rfl, rfl⟩) ?_
        try simp only [Act.put]
        try simp only [List.setIfInBounds_toArray]
        try simp only [List.set_cons_succ]
        try simp only [List.set_cons_zero]
        refine wpAny_take_at (i := 15) (v := undef) (some 123) rfl rfl (by kernel_rfl) (by kernel_rfl) (by kernel_rfl) (fun _ _ _ h => h) (Or.inr ⟨by kernel_rfl, rfl⟩) ?_
        try simp only [Act.put]
        try simp only [List.setIfInBounds_toArray]
        try simp only [List.set_cons_succ]
        try simp only [List.set_cons_zero]
        refine wpAny_take_at (i := 16) (v := undef) (some 124) rfl rfl (by kernel_rfl) (by kernel_rfl) (by kernel_rfl) (fun _ _ _ h => h) (Or.inr ⟨by kernel_rfl, rfl⟩) ?_
        try simp only [Act.put]
        try simp only [List.setIfInBounds_toArray]
        try simp only [List.set_cons_succ]
        try simp only [List.set_cons_zero]
        refine wpAny_take_at (i := 17) (v := undef) (some 125) rfl rfl (by kernel_rfl) (by kernel_rfl) (by kernel_rfl) (fun _ _ _ h => h) (Or.inr ⟨by kernel_rfl, rfl⟩) ?_
        try simp only [Act.put]
        try simp only [List.setIfInBounds_toArray]
        try simp only [List.set_cons_succ]
        try simp only [List.set_cons_zero]
        refine wpAny_take_at (i := 18) (v := undef) (some 126) rfl rfl (by kernel_rfl) (by kernel_rfl) (by kernel_rfl) (fun _ _ _ h => h) (Or.inr ⟨by kernel_rfl, rfl⟩) ?_
        try simp only [Act.put]
        try simp only [List.setIfInBounds_toArray]
        try simp only [List.set_cons_succ]
        try simp only [List.set_cons_zero]
        refine wpAny_take_at (i := 19) (v := undef) (some 127) rfl rfl (by kernel_rfl) (by kernel_rfl) (by kernel_rfl) (fun _ _ _ h => h) (Or.inr ⟨by kernel_rfl, rfl⟩) ?_
        try simp only [Act.put]
        try simp only [List.setIfInBounds_toArray]
        try simp only [List.set_cons_succ]
        try simp only [List.set_cons_zero]
        refine wpAny_take_at (i := 20) (v := undef) (some 128) rfl rfl (by kernel_rfl) (by kernel_rfl) (by kernel_rfl) (fun _ _ _ h => h) (Or.inr ⟨by kernel_rfl, rfl⟩) ?_
        try simp only [Act.put]
        try simp only [List.setIfInBounds_toArray]
        try simp only [List.set_cons_succ]
        try simp only [List.set_cons_zero]
        refine wpAny_take_at (i := 21) (v := undef) (some 129) rfl rfl (by kernel_rfl) (by kernel_rfl) (by kernel_rfl) (fun _ _ _ h => h) (Or.inr ⟨by kernel_rfl, rfl⟩) ?_
        try simp only [Act.put]
        try simp only [List.setIfInBounds_toArray]
        try simp only [List.set_cons_succ]
        try simp only [List.set_cons_zero]
        refine wpAny_take_at (i := 22) (v := ?v22) (some 130) rfl rfl (by kernel_rfl) (by kernel_rfl) (by kernel_rfl) (fun _ _ _ h => h) (Or.inl ⟨by kernel_rfl, ?h22⟩) ?r22
        case h22 => (intro w; go_simp; first | done | (with_reducible rfl))
        try simp only [Act.put]
        try simp only [List.setIfInBounds_toArray]
        try simp only [List.set_cons_succ]
        try simp only [List.set_cons_zero]
        refine wpAny_done (by kernel_rfl) ?_ _
  
        go_wp2_with fail
        go_meet
        exact ⟨by first | rfl | simp, o10⟩
    case rest =>
      obtain ⟨rfl, hbd⟩ := hcut
      have HB9 := Lib.hid (below_only HBc.out hbd)
      have HD1 := Lib.hid (Ents.below HC1c.out hbd)
      have HD3 := Lib.hid (Ents.below HC3c.out hbd)
      have Hed := Lib.hid (row_below Hec.out hbd)
      clear hbd e_0 e_1 z_e hcs1 hcs3
      go_wp2_with fail
      go_loopw [11] (fun pv wr => ∃ (T : List Ent) (Ar : Option Addr) (cr : Nat), (reach M (a % 8) = true → reach T (a % 8) = true) ∧ 1 ≤ T.length ∧ T.length ≤ 6 ∧ pv = .slice Ar T.length cr ∧ T.length ≤ cr ∧ Ents wr Ar T ∧ Below wc.heap.size wc wr)
        (fun pv _ => 6 - lenOf pv)
      case atStart => exact ⟨P, A3, c3, fun h => by have := HPr.out [] h; rw [List.append_nil] at this; exact this, by have := HPl.out; omega, hP6, rfl, hc3, HD3.out, Below.refl _ _⟩
      case round =>
        obtain ⟨T, Ar, cr, hTr, hT1, hT6, rfl, hTc, hTe, hBr⟩ := hrel
        have HTr := Lib.hid hTr
        have HTe := Lib.hid hTe
        have HBr := Lib.hid hBr
        clear hTr hTe hBr
        by_cases hlt : T.length < 6
        · have hlt' : (T.length : Int) < 6 := by omega
          obtain ⟨T', HT'⟩ : ∃ T', Hid (T ++ [(0, false)] = T') := ⟨_, Lib.hid rfl⟩
          have HP9 := Lib.hid (show push T (0, false) = (T', 0) by rw [push, if_neg (by omega), HT'.out])
          have HL := Lib.hid (show T'.length = T.length + 1 by rw [← HT'.out]; simp)
          have hL0 : 0 < T'.length := by have := HL.out; omega
          go_wp2_with fail
          refine (push_any Ar cr T 0 false _ (by omega) HTe.out).mono ?_
          rintro r w9 ⟨v, rfl, A9, c9, rfl, hc9, hcs9, -, hb9⟩
          rw [HP9.out] at hc9 hcs9 ⊢
          have Hc9 := Lib.hid (show Ents w9 A9 T' from hcs9)
          have HBr9 := Lib.hid (below_only HBr.out hb9)
          clear hcs9 hb9
          go_wp2_with fail
          go_roundw
          case rel => exact ⟨T', A9, c9, fun h => by rw [← HT'.out]; exact reach_app _ _ _ (HTr.out h), by omega, by have := HL.out; omega, rfl, hc9, Hc9.out, HBr9.out⟩
          case measure => have := HL.out; simp [lenOf]; omega
        · have hlt' : ¬ (T.length : Int) < 6 := by omega
          obtain ⟨e_0, e_1, _, _⟩ := box2 (row_below Hed.out HBr.out)
          have HP9 := Lib.hid (show push T (1 + n % 7, true) = ([], 24) by rw [push, if_pos (by omega)])
          have HQ9 := Lib.hid (show pop [] = ([], (0, false), 23) from rfl)
          go_wp2_with fail
          refine (push_any Ar cr T (1 + n % 7) true _ (by omega) HTe.out).mono ?_
          rintro r w9 ⟨v, rfl, A9, c9, rfl, hc9, hcs9, -, hb9⟩
          rw [HP9.out]
          have HBr9 := Lib.hid (below_only HBr.out hb9)
          have hb9' := Lib.hid hb9
          clear hcs9 hb9 hc9 e_0 e_1
          go_wp2_with fail
          refine (pop_any none 0 [] _ (by simp) (by simp) Cells.nil).mono ?_
          rintro r w10 ⟨v, rfl, A10, c10, rfl, hc10, hcs10, -, hb10⟩
          rw [HQ9.out]
          have HX := Lib.hid (show Below wc.heap.size wc (w10.alloc (.cells #[.int .i64 0, .bool false] 34)) from below_only (below_only HBr9.out hb10) (by go_grown))
          have hM1 := Ents.below HD1.out HX.out
          clear hc10 hcs10
          go_wp2_with fail
          refine (reach_any A1 c1 M _ _ hM hM1).mono ?_
          rintro r w11 ⟨rfl, hb11⟩
          have HY := Lib.hid (below_only HX.out hb11)
          have HTf := Lib.hid (show Ents w11 Ar T from Ents.below (Cells.alloc (Ents.below (Ents.below HTe.out (by have := hb9'.out; exact this)) hb10) _) hb11)
          clear hb10 hb11 hM1
          cases hra : reach M (a % 8) with
          | false =>
            go_wp2_with fail
            go_ret
            exact ⟨rfl, below_only HB9.out HY.out⟩
          | true =>
            have hTa := HTr.out hra
            go_wp2_with fail
            refine (reach_any Ar cr T _ _ (by omega) HTf.out).mono ?_
            rintro r w12 ⟨rfl, hb12⟩
            rw [hTa]
            have HZ := Lib.hid (below_only HY.out hb12)
            clear hb12
            go_wp2_with fail
            go_ret
            exact ⟨rfl, below_only HB9.out HZ.out⟩
  

theorem chainPushes_walk (A : Option Addr) (k : Nat) (l : List Ent) (n a b : Int) (w : World) (hl : l.length ≤ k) (hk : k ≤ maxLen) (he : Ents w A l) (_ : ∀ e ∈ l, EntOk e)
    (hn : (Lit.int .u8 n).wf = true) (ha : (Lit.int .u8 a).wf = true) (hb : (Lit.int .u8 b).wf = true) :
    Calls Try.prog 7 #[.slice A l.length k, .int .u8 n, .agg #[.int .u8 a, .int .u8 b]] w fun e w' => e = .returned (.bool true) ∧ Below w.heap.size w w' :=
  chainPushes_core A k l n a b w (by simp only [maxLen] at hk; omega) he (wf_u8 hn).1 (wf_u8 hn).2 (wf_u8 ha).1 (wf_u8 ha).2 (wf_u8 hb).1 (wf_u8 hb).2

end Go.Proofs.Ythfjdgdpghepoaa
