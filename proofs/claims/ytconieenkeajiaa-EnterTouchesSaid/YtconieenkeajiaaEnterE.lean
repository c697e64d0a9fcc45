/- Layer 17: the law's shown. -/
import Derived.Test.YtconieenkeajiaaEnterD
import Derived.Test.YtconieenkeajiaaCtlG
namespace Go.Proofs.Ytconieenkeajiaa
open Go.RowKit
set_option linter.unusedVariables false
set_option linter.unusedSimpArgs false

theorem step_load_row {P : Program} {ops : Array Oper} {o : Oper} {a : Act} {w : World} {K : Act → World → Prop} {Q : Exit → Act → World → Prop} {E : Prop} (d : Option Tmp) (hd : o.dst = d) (hgd : o.guard = none) (ty : TypeId) (x : Operand) (ho : o.op = .load ty x)
    (g : Nat) (hx : a.eval x = .pointer (some ⟨g, 0, none⟩)) (t : TypeId) (cs : Array Value) (fr : Nat × Nat) (ds : TypeDesc) (hg : w.heap[g]? = some (.cells cs t fr))
    (hu : P.underlying ty = some ds) (hds : (match ds with | .struct _ | .array _ _ => true | _ => false) = true) (hi : (P.info? ty).map (·.size) = some cs.size)
    (h : K (a.put d (.agg cs)) w) : if Region.wanted o (yielded ops a.tmps) = true then Oper.wp P o a w K Q else E := by
  subst hd
  have hw : Region.wanted o (yielded ops a.tmps) = true := by simp [Region.wanted, hgd]
  rw [if_pos hw]
  exact wp_load_row ty x ho g hx t cs fr ds hg hu hds hi h
theorem wpList_load_row_w {P : Program} {ops : Array Oper} {rest : List Oper} {o : Oper} {a : Act} {w : World} {Q : Exit → Act → World → Prop} (hw : Region.wanted o (yielded ops a.tmps) = true) (ty : TypeId) (x : Operand) (ho : o.op = .load ty x)
    (g : Nat) (hx : a.eval x = .pointer (some ⟨g, 0, none⟩)) (t : TypeId) (cs : Array Value) (fr : Nat × Nat) (d : TypeDesc) (hg : w.heap[g]? = some (.cells cs t fr))
    (hu : P.underlying ty = some d) (hd : (match d with | .struct _ | .array _ _ => true | _ => false) = true) (hi : (P.info? ty).map (·.size) = some cs.size)
    (h : wpList P ops Q rest (a.put o.dst (.agg cs)) w) : wpList P ops Q (o :: rest) a w :=
  BigFrame.wpList_want hw fun _ hK => wp_load_row ty x ho g hx t cs fr d hg hu hd hi (hK _ _ h)

/-- a call of an entry on its way; what a look, and what entering makes of it -/
def wayR (s a : Int) (ch : Sl) (x y : Int) : Rn := ⟨⟨4, 0, 0, 0, s, 0, 0⟩, 14, a, 0, 0, ch, x, y, 0, 0, noS, 0, noS, 0, false, false, false, 0, 0, noS⟩
def lookN (c : Ctl) (s a : Int) (ch : Sl) : Rn := if (enter c a).2 = 10 then callRn s a ch else if (enter c a).2 = 0 then wayR s a ch (word c) (word (enter c a).1) else toldR (callRn s a ch) (enter c a).2 0 noS
def enterN (v s a : Int) (ch : Sl) (x y : Int) : Rn := if v = x then toldR (wayR s a ch x y) 0 0 noS else callRn s a ch
def enterW (v x y : Int) : Int := if v = x then y else v
theorem stepLook_any (p b k : Nat) (ws : List Int) (c : Ctl) (s a : Int) (ch : Sl) (w : World) (hA : Arn w p b ws) (hc : Right c) (hk : ws[k]? = some (word c)) (hs : 1 ≤ s ∧ s ≤ 3) (ha : (k : Int) = 8 * s) :
    Calls Try.prog 17 #[(.agg #[.int .i64 4, .int .i64 4, .int .i64 0, .int .i64 64]), .pointer (some ⟨p, 0, none⟩), (callRn s a ch).v] w fun e w' => e = .returned (.tuple #[(lookN c s a ch).v, .int .i64 0]) ∧ Arn w' p b ws ∧ Keep [b] w w' := by
  have h1 : stepR c (callRn s a ch) = lookN c s a ch := rfl
  have h2 : ws.set k (stepX c (callRn s a ch)) = ws := by
    have : stepX c (callRn s a ch) = word c := by unfold stepX; rw [if_neg (by simp [callRn])]
    rw [this]; exact set_same hk
  refine (step_any p b k 4 4 0 64 ws c (callRn s a ch) w PL hA hc hk ha (by simp only [callRn]; omega) rfl rfl (.inl rfl) (by simp [callRn])).mono ?_
  rintro e w' ⟨he, hA', hK⟩
  rw [h1] at he
  rw [h2] at hA'
  exact ⟨he, hA', hK⟩
theorem stepEnter_any (p b k : Nat) (ws : List Int) (c : Ctl) (s a : Int) (ch : Sl) (x y : Int) (w : World) (hA : Arn w p b ws) (hc : Right c) (hk : ws[k]? = some (word c)) (hs : 1 ≤ s ∧ s ≤ 3) (ha : (k : Int) = 8 * s) (hy : 0 ≤ y ∧ y < 18446744073709551616) :
    Calls Try.prog 17 #[(.agg #[.int .i64 4, .int .i64 4, .int .i64 0, .int .i64 64]), .pointer (some ⟨p, 0, none⟩), (wayR s a ch x y).v] w fun e w' => e = .returned (.tuple #[(enterN (word c) s a ch x y).v, .int .i64 0]) ∧ Arn w' p b (ws.set k (enterW (word c) x y)) ∧ Keep [b] w w' := by
  have h1 : stepR c (wayR s a ch x y) = enterN (word c) s a ch x y := rfl
  have h2 : stepX c (wayR s a ch x y) = enterW (word c) x y := by
    unfold stepX enterW
    by_cases h : word c = x
    · rw [if_pos ⟨rfl, h⟩, if_pos h]; rfl
    · rw [if_neg (fun g => h g.2), if_neg h]
  refine (step_any p b k 4 4 0 64 ws c (wayR s a ch x y) w PL hA hc hk ha (by simp only [wayR]; omega) rfl rfl (.inr rfl) hy).mono ?_
  rintro e w' ⟨he, hA', hK⟩
  rw [h1] at he
  rw [h2] at hA'
  exact ⟨he, hA', hK⟩
theorem stepDone17_any (p b k : Nat) (ws : List Int) (c : Ctl) (r : Rn) (w : World) (hA : Arn w p b ws) (hc : Right c) (hk : ws[k]? = some (word c)) (hs : 1 ≤ r.c.a ∧ r.c.a ≤ 3) (ha : (k : Int) = 8 * r.c.a) (h1 : r.said = noS) (h2 : r.done = true) (h3 : r.pc = 13 ∨ r.pc = 14) (h4 : 0 ≤ r.next ∧ r.next < 18446744073709551616) :
    Calls Try.prog 17 #[(.agg #[.int .i64 4, .int .i64 4, .int .i64 0, .int .i64 64]), .pointer (some ⟨p, 0, none⟩), r.v] w fun e w' => ∃ v, e = .returned (.tuple #[v, .int .i64 1]) ∧ Below w.heap.size w w' :=
  stepDone_any p b k 4 4 0 64 ws c r w PL hA hc hk ha (by omega) h1 h2 h3 h4
theorem enter_sh : enter ⟨1, 0, -1, 0⟩ 0 = (⟨2, 1, 0, 0⟩, 0) := by rw [enter_ok (by decide) (by decide)]; rfl

/-- the words behind the example's layout -/
def shWs : List Int := laidWs ⟨1, 0, 0, 0⟩ ⟨0, 0, 0, 0⟩ ⟨0, 0, 0, 0⟩
theorem sh_8 : shWs[8]? = some (word ⟨1, 0, -1, 0⟩) := by decide

set_option maxRecDepth 100000 in
set_option maxHeartbeats 2000000 in
theorem shown_any (w : World) : Calls Try.prog 9 #[] w fun r w' => r = .returned (.bool true) ∧ Below w.heap.size w w' := by
  go_enter Try.func9, Try.ntmps9
  go_wp2_with fail
  refine (laid_any 1 0 0 0 0 0 0 0 0 0 0 0 _).mono ?_
  rintro r w1 ⟨p, b, X, q, d, rfl, hT, hb⟩
  have HA : Hid (Arn w1 p b shWs) := Lib.hid hT.a
  have Hb : Hid (w.heap.size ≤ b) := Lib.hid hT.low.2.1
  have Hp : Hid (w.heap.size ≤ p) := Lib.hid hT.low.1
  have B := Lib.hid (hb)
  clear hT hb
  go_wp2_with fail
  refine (call_any 0 0 1 0 _ (by decide) (by decide) (by decide) (by decide)).mono ?_
  rintro r w2 ⟨kc, cA, rfl, hE, hb⟩
  clear hE
  have hsz := (hb).size
  replace HA := Lib.hid (HA.out.below hb)
  replace B := Lib.hid (below_only B.out hb)
  clear hb hsz
  go_upto_region 5 with (refine wpList_store_row rfl 40 (.tmp 3) (.tmp 15) rfl w2.heap.size (callRn 1 0 ⟨cA, 1, kc⟩).arr rfl rfl 40 ZRun (row_new _ _ _) infoRun rfl (Rn.one _) ?_)
  refine alloc_set' w2 _ _ _ ?_
  intro w3 hr hb
  have hlB := B.out.size
  have hlt := lt_of_heap HA.out.row
  have hlp := lt_of_heap HA.out.box
  have hsz := (hb).size
  replace HA := Lib.hid (HA.out.below hb)
  replace B := Lib.hid (below_only B.out hb)
  clear hb hsz
  have H_r := Lib.hid (show w3.heap[w2.heap.size]? = some (.cells (callRn 1 0 ⟨cA, 1, kc⟩).arr 40 (0, 0)) from hr)
  clear hr
  obtain ⟨g_r, hg_r⟩ : ∃ x, x = w2.heap.size := ⟨_, rfl⟩
  rw [← hg_r] at H_r ⊢
  have N_r : Hid (g_r ≠ b) := Lib.hid (by omega)
  have NP_r : Hid (p ≠ g_r) := Lib.hid (by omega)
  clear hlt hlp
  have L_r : Hid (w.heap.size ≤ g_r) := Lib.hid (by omega)
  clear hg_r hlB
  go_upto_region 5 with fail
  have Hl : Hid (lookN ⟨1, 0, -1, 0⟩ 1 0 ⟨cA, 1, kc⟩ = (wayR 1 0 ⟨cA, 1, kc⟩ (word ⟨1, 0, -1, 0⟩) (word ⟨2, 1, 0, 0⟩))) := Lib.hid (by unfold lookN; rw [enter_sh]; rfl)
  try simp only [Act.put]
  go_cut [] from 16 to 22 (fun wx => wx.heap[g_r]? = some (.cells (wayR 1 0 ⟨cA, 1, kc⟩ (word ⟨1, 0, -1, 0⟩) (word ⟨2, 1, 0, 0⟩)).arr 40 (0, 0)) ∧ Arn wx p b shWs ∧ Keep [b, g_r] w3 wx)
  case first =>
    refine wp_region_held_drew (S := fun _ => True) (by kernel_rfl) trivial ?_
    intro hS
    have hA : Arn w3.drew p b shWs := HA.out.drew
    have hR : w3.drew.heap[g_r]? = some (.cells (callRn 1 0 ⟨cA, 1, kc⟩).arr 40 (0, 0)) := H_r.out
    have hK0 : Keep [b] w3 w3.drew := (Keep.refl _ _).drew
    generalize w3.drew = y0 at hA hR hK0 ⊢
    refine wpAnyH_take_at (i := 1) (v := ?v1x1) (some 18) rfl rfl (by kernel_rfl) (by kernel_rfl) (by kernel_rfl) (fun _ _ _ h => h) (Or.inl ⟨by kernel_rfl, ?h1x1⟩) (by assumption) ?r1x1
    case h1x1 => (intro w hSw; (try dsimp only at hSw); go_simp; first | done | (with_reducible rfl))
    try simp only [Act.put]
    try simp only [List.setIfInBounds_toArray]
    try simp only [List.set_cons_succ]
    try simp only [List.set_cons_zero]
    refine wpAnyH_ready (rs := [0, 2]) (by kernel_rfl) (by simp) ?_
    refine AllReadyH.cons rfl (fun K hK => ?_) (AllReadyH.cons rfl (fun K hK => ?_) AllReadyH.nil)
    · skip
      go_simp
      refine (plan_any _).mono ?_
      rintro e' yP ⟨rfl, hb⟩
      go_simp
      replace hA := hA.below hb
      replace hK0 := hK0.call hb
      replace hR := row_below hR hb
      refine hK.out _ _ (trivial) (fun hS => ?_)
      clear hK K
      try simp only [Act.put]
      try simp only [List.setIfInBounds_toArray]
      try simp only [List.set_cons_succ]
      try simp only [List.set_cons_zero]
      refine wpAnyH_ready (rs := [2]) (by kernel_rfl) (by simp) ?_
      refine AllReadyH.cons rfl (fun K hK => ?_) AllReadyH.nil
      refine step_load_row (some 19) rfl rfl 40 (.tmp 3) rfl g_r rfl 40 (callRn 1 0 ⟨cA, 1, kc⟩).arr (0, 0) _ hR undRun rfl infoRun ?_
      refine hK.out _ _ (trivial) (fun hS => ?_)
      clear hK K
      try simp only [Act.put]
      try simp only [List.setIfInBounds_toArray]
      try simp only [List.set_cons_succ]
      try simp only [List.set_cons_zero]
      refine wpAnyH_ready (rs := [3]) (by kernel_rfl) (by simp) ?_
      refine AllReadyH.cons rfl (fun K hK => ?_) AllReadyH.nil
      go_simp
      refine (((stepLook_any p b 8 shWs ⟨1, 0, -1, 0⟩ 1 0 ⟨cA, 1, kc⟩ _ hA (by decide) sh_8 (by decide) (by decide)).mono fun e w' h => by rw [Hl.out] at h; exact h)).mono ?_
      rintro e' yS ⟨rfl, hA1, hK1⟩
      go_simp
      replace hK0 := hK0.trans hK1
      replace hR := hK1.row hR (by simpa using N_r.out)
      clear hA
      have hA := hA1
      clear hA1
      refine hK.out _ _ (trivial) (fun hS => ?_)
      clear hK K
      try simp only [Act.put]
      try simp only [List.setIfInBounds_toArray]
      try simp only [List.set_cons_succ]
      try simp only [List.set_cons_zero]
      refine wpAnyH_take_at (i := 4) (v := ?v4x2) (some 16) rfl rfl (by kernel_rfl) (by kernel_rfl) (by kernel_rfl) (fun _ _ _ h => h) (Or.inl ⟨by kernel_rfl, ?h4x2⟩) (by assumption) ?r4x2
      case h4x2 => (intro w hSw; (try dsimp only at hSw); go_simp; first | done | (with_reducible rfl))
      try simp only [Act.put]
      try simp only [List.setIfInBounds_toArray]
      try simp only [List.set_cons_succ]
      try simp only [List.set_cons_zero]
      refine wpAnyH_take_at (i := 5) (v := ?v5x3) (some 21) rfl rfl (by kernel_rfl) (by kernel_rfl) (by kernel_rfl) (fun _ _ _ h => h) (Or.inl ⟨by kernel_rfl, ?h5x3⟩) (by assumption) ?r5x3
      case h5x3 => (intro w hSw; (try dsimp only at hSw); go_simp; first | done | (with_reducible rfl))
      try simp only [Act.put]
      try simp only [List.setIfInBounds_toArray]
      try simp only [List.set_cons_succ]
      try simp only [List.set_cons_zero]
      refine wpAnyH_take_at (i := 6) (v := ?v6x4) (some 22) rfl rfl (by kernel_rfl) (by kernel_rfl) (by kernel_rfl) (fun _ _ _ h => h) (Or.inl ⟨by kernel_rfl, ?h6x4⟩) (by assumption) ?r6x4
      case h6x4 => (intro w hSw; (try dsimp only at hSw); go_simp; first | done | (with_reducible rfl))
      try simp only [Act.put]
      try simp only [List.setIfInBounds_toArray]
      try simp only [List.set_cons_succ]
      try simp only [List.set_cons_zero]
      refine wpAnyH_ready (rs := [7]) (by kernel_rfl) (by simp) ?_
      refine AllReadyH.cons rfl (fun K hK => ?_) AllReadyH.nil
      refine step_store_row none rfl rfl 40 (.tmp 3) (.tmp 21) rfl g_r (wayR 1 0 ⟨cA, 1, kc⟩ (word ⟨1, 0, -1, 0⟩) (word ⟨2, 1, 0, 0⟩)).arr rfl rfl 40 (callRn 1 0 ⟨cA, 1, kc⟩).arr hR infoRun rfl (Rn.one _) ?_
      refine hK.out _ _ (trivial) (fun hS => ?_)
      clear hK K
      try simp only [Act.put]
      try simp only [List.setIfInBounds_toArray]
      try simp only [List.set_cons_succ]
      try simp only [List.set_cons_zero]
      refine wpAnyH_done (by kernel_rfl) ?_ _
      go_wp2_with fail
      go_meet
      have hks := (Keep.refl [g_r] yS).setRow (g := g_r) (.inl (by simp)) (wayR 1 0 ⟨cA, 1, kc⟩ (word ⟨1, 0, -1, 0⟩) (word ⟨2, 1, 0, 0⟩)).arr
      exact ⟨setRow_heap _ _ _ _ _ _ hR, hA.kept hks (by simpa using NP_r.out) (by simpa using fun e => N_r.out e.symm), (hK0.mono (T := [b, g_r]) (fun i _ h => by simp at h ⊢; exact .inl h)).then hks (fun i _ h => by simp at h ⊢; exact .inr h)⟩
    · skip
      refine step_load_row (some 19) rfl rfl 40 (.tmp 3) rfl g_r rfl 40 (callRn 1 0 ⟨cA, 1, kc⟩).arr (0, 0) _ hR undRun rfl infoRun ?_
      refine hK.out _ _ (trivial) (fun hS => ?_)
      clear hK K
      try simp only [Act.put]
      try simp only [List.setIfInBounds_toArray]
      try simp only [List.set_cons_succ]
      try simp only [List.set_cons_zero]
      refine wpAnyH_ready (rs := [0]) (by kernel_rfl) (by simp) ?_
      refine AllReadyH.cons rfl (fun K hK => ?_) AllReadyH.nil
      go_simp
      refine (plan_any _).mono ?_
      rintro e' yP ⟨rfl, hb⟩
      go_simp
      replace hA := hA.below hb
      replace hK0 := hK0.call hb
      replace hR := row_below hR hb
      refine hK.out _ _ (trivial) (fun hS => ?_)
      clear hK K
      try simp only [Act.put]
      try simp only [List.setIfInBounds_toArray]
      try simp only [List.set_cons_succ]
      try simp only [List.set_cons_zero]
      refine wpAnyH_ready (rs := [3]) (by kernel_rfl) (by simp) ?_
      refine AllReadyH.cons rfl (fun K hK => ?_) AllReadyH.nil
      go_simp
      refine (((stepLook_any p b 8 shWs ⟨1, 0, -1, 0⟩ 1 0 ⟨cA, 1, kc⟩ _ hA (by decide) sh_8 (by decide) (by decide)).mono fun e w' h => by rw [Hl.out] at h; exact h)).mono ?_
      rintro e' yS ⟨rfl, hA1, hK1⟩
      go_simp
      replace hK0 := hK0.trans hK1
      replace hR := hK1.row hR (by simpa using N_r.out)
      clear hA
      have hA := hA1
      clear hA1
      refine hK.out _ _ (trivial) (fun hS => ?_)
      clear hK K
      try simp only [Act.put]
      try simp only [List.setIfInBounds_toArray]
      try simp only [List.set_cons_succ]
      try simp only [List.set_cons_zero]
      refine wpAnyH_take_at (i := 4) (v := ?v4x5) (some 16) rfl rfl (by kernel_rfl) (by kernel_rfl) (by kernel_rfl) (fun _ _ _ h => h) (Or.inl ⟨by kernel_rfl, ?h4x5⟩) (by assumption) ?r4x5
      case h4x5 => (intro w hSw; (try dsimp only at hSw); go_simp; first | done | (with_reducible rfl))
      try simp only [Act.put]
      try simp only [List.setIfInBounds_toArray]
      try simp only [List.set_cons_succ]
      try simp only [List.set_cons_zero]
      refine wpAnyH_take_at (i := 5) (v := ?v5x6) (some 21) rfl rfl (by kernel_rfl) (by kernel_rfl) (by kernel_rfl) (fun _ _ _ h => h) (Or.inl ⟨by kernel_rfl, ?h5x6⟩) (by assumption) ?r5x6
      case h5x6 => (intro w hSw; (try dsimp only at hSw); go_simp; first | done | (with_reducible rfl))
      try simp only [Act.put]
      try simp only [List.setIfInBounds_toArray]
      try simp only [List.set_cons_succ]
      try simp only [List.set_cons_zero]
      refine wpAnyH_take_at (i := 6) (v := ?v6x7) (some 22) rfl rfl (by kernel_rfl) (by kernel_rfl) (by kernel_rfl) (fun _ _ _ h => h) (Or.inl ⟨by kernel_rfl, ?h6x7⟩) (by assumption) ?r6x7
      case h6x7 => (intro w hSw; (try dsimp only at hSw); go_simp; first | done | (with_reducible rfl))
      try simp only [Act.put]
      try simp only [List.setIfInBounds_toArray]
      try simp only [List.set_cons_succ]
      try simp only [List.set_cons_zero]
      refine wpAnyH_ready (rs := [7]) (by kernel_rfl) (by simp) ?_
      refine AllReadyH.cons rfl (fun K hK => ?_) AllReadyH.nil
      refine step_store_row none rfl rfl 40 (.tmp 3) (.tmp 21) rfl g_r (wayR 1 0 ⟨cA, 1, kc⟩ (word ⟨1, 0, -1, 0⟩) (word ⟨2, 1, 0, 0⟩)).arr rfl rfl 40 (callRn 1 0 ⟨cA, 1, kc⟩).arr hR infoRun rfl (Rn.one _) ?_
      refine hK.out _ _ (trivial) (fun hS => ?_)
      clear hK K
      try simp only [Act.put]
      try simp only [List.setIfInBounds_toArray]
      try simp only [List.set_cons_succ]
      try simp only [List.set_cons_zero]
      refine wpAnyH_done (by kernel_rfl) ?_ _
      go_wp2_with fail
      go_meet
      have hks := (Keep.refl [g_r] yS).setRow (g := g_r) (.inl (by simp)) (wayR 1 0 ⟨cA, 1, kc⟩ (word ⟨1, 0, -1, 0⟩) (word ⟨2, 1, 0, 0⟩)).arr
      exact ⟨setRow_heap _ _ _ _ _ _ hR, hA.kept hks (by simpa using NP_r.out) (by simpa using fun e => N_r.out e.symm), (hK0.mono (T := [b, g_r]) (fun i _ h => by simp at h ⊢; exact .inl h)).then hks (fun i _ h => by simp at h ⊢; exact .inr h)⟩
  case rest =>
    obtain ⟨hRr, hA, hK⟩ := hcut
    obtain ⟨w4, hwx⟩ : ∃ x, x = wc := ⟨_, rfl⟩
    subst hwx
    replace HA := Lib.hid hA
    replace B := Lib.hid (Keep.under B.out hK (by have := B.out.size; omega) (by simp; exact ⟨Hb.out, L_r.out⟩))
    replace H_r := Lib.hid hRr
    clear hA hK hRr
    have Hl2 : Hid (enterN (word ⟨1, 0, -1, 0⟩) 1 0 ⟨cA, 1, kc⟩ (word ⟨1, 0, -1, 0⟩) (word ⟨2, 1, 0, 0⟩) = (toldR (wayR 1 0 ⟨cA, 1, kc⟩ (word ⟨1, 0, -1, 0⟩) (word ⟨2, 1, 0, 0⟩)) 0 0 noS)) := Lib.hid (by unfold enterN; rw [if_pos rfl])
    go_upto_region 6 with fail
    try simp only [Act.put]
    go_cut [4] from 4 to 29 (fun ve wx => ve = .int .i64 0 ∧ wx.heap[g_r]? = some (.cells (toldR (wayR 1 0 ⟨cA, 1, kc⟩ (word ⟨1, 0, -1, 0⟩) (word ⟨2, 1, 0, 0⟩)) 0 0 noS).arr 40 (0, 0)) ∧ Arn wx p b (shWs.set 8 (word ⟨2, 1, 0, 0⟩)) ∧ Keep [b, g_r] w4 wx)
    case first =>
      refine wp_region_held_drew (S := fun _ => True) (by kernel_rfl) trivial ?_
      intro hS
      have hA : Arn w4.drew p b shWs := HA.out.drew
      have hR : w4.drew.heap[g_r]? = some (.cells (wayR 1 0 ⟨cA, 1, kc⟩ (word ⟨1, 0, -1, 0⟩) (word ⟨2, 1, 0, 0⟩)).arr 40 (0, 0)) := H_r.out
      have hK0 : Keep [b] w4 w4.drew := (Keep.refl _ _).drew
      generalize w4.drew = y0 at hA hR hK0 ⊢
      refine wpAnyH_take_at (i := 1) (v := ?v1x8) (some 25) rfl rfl (by kernel_rfl) (by kernel_rfl) (by kernel_rfl) (fun _ _ _ h => h) (Or.inl ⟨by kernel_rfl, ?h1x8⟩) (by assumption) ?r1x8
      case h1x8 => (intro w hSw; (try dsimp only at hSw); go_simp; first | done | (with_reducible rfl))
      try simp only [Act.put]
      try simp only [List.setIfInBounds_toArray]
      try simp only [List.set_cons_succ]
      try simp only [List.set_cons_zero]
      refine wpAnyH_ready (rs := [0, 2]) (by kernel_rfl) (by simp) ?_
      refine AllReadyH.cons rfl (fun K hK => ?_) (AllReadyH.cons rfl (fun K hK => ?_) AllReadyH.nil)
      · skip
        go_simp
        refine (plan_any _).mono ?_
        rintro e' yP ⟨rfl, hb⟩
        go_simp
        replace hA := hA.below hb
        replace hK0 := hK0.call hb
        replace hR := row_below hR hb
        refine hK.out _ _ (trivial) (fun hS => ?_)
        clear hK K
        try simp only [Act.put]
        try simp only [List.setIfInBounds_toArray]
        try simp only [List.set_cons_succ]
        try simp only [List.set_cons_zero]
        refine wpAnyH_ready (rs := [2]) (by kernel_rfl) (by simp) ?_
        refine AllReadyH.cons rfl (fun K hK => ?_) AllReadyH.nil
        refine step_load_row (some 26) rfl rfl 40 (.tmp 3) rfl g_r rfl 40 (wayR 1 0 ⟨cA, 1, kc⟩ (word ⟨1, 0, -1, 0⟩) (word ⟨2, 1, 0, 0⟩)).arr (0, 0) _ hR undRun rfl infoRun ?_
        refine hK.out _ _ (trivial) (fun hS => ?_)
        clear hK K
        try simp only [Act.put]
        try simp only [List.setIfInBounds_toArray]
        try simp only [List.set_cons_succ]
        try simp only [List.set_cons_zero]
        refine wpAnyH_ready (rs := [3]) (by kernel_rfl) (by simp) ?_
        refine AllReadyH.cons rfl (fun K hK => ?_) AllReadyH.nil
        go_simp
        refine (((stepEnter_any p b 8 shWs ⟨1, 0, -1, 0⟩ 1 0 ⟨cA, 1, kc⟩ (word ⟨1, 0, -1, 0⟩) (word ⟨2, 1, 0, 0⟩) _ hA (by decide) sh_8 (by decide) (by decide) (by decide)).mono fun e w' h => by rw [Hl2.out, show enterW (word ⟨1, 0, -1, 0⟩) (word ⟨1, 0, -1, 0⟩) (word ⟨2, 1, 0, 0⟩) = word ⟨2, 1, 0, 0⟩ from if_pos rfl] at h; exact h)).mono ?_
        rintro e' yS ⟨rfl, hA1, hK1⟩
        go_simp
        replace hK0 := hK0.trans hK1
        replace hR := hK1.row hR (by simpa using N_r.out)
        clear hA
        have hA := hA1
        clear hA1
        refine hK.out _ _ (trivial) (fun hS => ?_)
        clear hK K
        try simp only [Act.put]
        try simp only [List.setIfInBounds_toArray]
        try simp only [List.set_cons_succ]
        try simp only [List.set_cons_zero]
        refine wpAnyH_take_at (i := 4) (v := ?v4x9) (some 23) rfl rfl (by kernel_rfl) (by kernel_rfl) (by kernel_rfl) (fun _ _ _ h => h) (Or.inl ⟨by kernel_rfl, ?h4x9⟩) (by assumption) ?r4x9
        case h4x9 => (intro w hSw; (try dsimp only at hSw); go_simp; first | done | (with_reducible rfl))
        try simp only [Act.put]
        try simp only [List.setIfInBounds_toArray]
        try simp only [List.set_cons_succ]
        try simp only [List.set_cons_zero]
        refine wpAnyH_take_at (i := 5) (v := ?v5x10) (some 28) rfl rfl (by kernel_rfl) (by kernel_rfl) (by kernel_rfl) (fun _ _ _ h => h) (Or.inl ⟨by kernel_rfl, ?h5x10⟩) (by assumption) ?r5x10
        case h5x10 => (intro w hSw; (try dsimp only at hSw); go_simp; first | done | (with_reducible rfl))
        try simp only [Act.put]
        try simp only [List.setIfInBounds_toArray]
        try simp only [List.set_cons_succ]
        try simp only [List.set_cons_zero]
        refine wpAnyH_take_at (i := 6) (v := ?v6x11) (some 29) rfl rfl (by kernel_rfl) (by kernel_rfl) (by kernel_rfl) (fun _ _ _ h => h) (Or.inl ⟨by kernel_rfl, ?h6x11⟩) (by assumption) ?r6x11
        case h6x11 => (intro w hSw; (try dsimp only at hSw); go_simp; first | done | (with_reducible rfl))
        try simp only [Act.put]
        try simp only [List.setIfInBounds_toArray]
        try simp only [List.set_cons_succ]
        try simp only [List.set_cons_zero]
        refine wpAnyH_ready (rs := [7]) (by kernel_rfl) (by simp) ?_
        refine AllReadyH.cons rfl (fun K hK => ?_) AllReadyH.nil
        refine step_store_row none rfl rfl 40 (.tmp 3) (.tmp 28) rfl g_r (toldR (wayR 1 0 ⟨cA, 1, kc⟩ (word ⟨1, 0, -1, 0⟩) (word ⟨2, 1, 0, 0⟩)) 0 0 noS).arr rfl rfl 40 (wayR 1 0 ⟨cA, 1, kc⟩ (word ⟨1, 0, -1, 0⟩) (word ⟨2, 1, 0, 0⟩)).arr hR infoRun rfl (Rn.one _) ?_
        refine hK.out _ _ (trivial) (fun hS => ?_)
        clear hK K
        try simp only [Act.put]
        try simp only [List.setIfInBounds_toArray]
        try simp only [List.set_cons_succ]
        try simp only [List.set_cons_zero]
        refine wpAnyH_take_at (i := 8) (v := ?v8x12) (some 4) rfl rfl (by kernel_rfl) (by kernel_rfl) (by kernel_rfl) (fun _ _ _ h => h) (Or.inl ⟨by kernel_rfl, ?h8x12⟩) (by assumption) ?r8x12
        case h8x12 => (intro w hSw; (try dsimp only at hSw); go_simp; first | done | (with_reducible rfl))
        try simp only [Act.put]
        try simp only [List.setIfInBounds_toArray]
        try simp only [List.set_cons_succ]
        try simp only [List.set_cons_zero]
        refine wpAnyH_done (by kernel_rfl) ?_ _
        go_wp2_with fail
        go_meet
        have hks := (Keep.refl [g_r] yS).setRow (g := g_r) (.inl (by simp)) (toldR (wayR 1 0 ⟨cA, 1, kc⟩ (word ⟨1, 0, -1, 0⟩) (word ⟨2, 1, 0, 0⟩)) 0 0 noS).arr
        exact ⟨rfl, setRow_heap _ _ _ _ _ _ hR, hA.kept hks (by simpa using NP_r.out) (by simpa using fun e => N_r.out e.symm), (hK0.mono (T := [b, g_r]) (fun i _ h => by simp at h ⊢; exact .inl h)).then hks (fun i _ h => by simp at h ⊢; exact .inr h)⟩
      · skip
        refine step_load_row (some 26) rfl rfl 40 (.tmp 3) rfl g_r rfl 40 (wayR 1 0 ⟨cA, 1, kc⟩ (word ⟨1, 0, -1, 0⟩) (word ⟨2, 1, 0, 0⟩)).arr (0, 0) _ hR undRun rfl infoRun ?_
        refine hK.out _ _ (trivial) (fun hS => ?_)
        clear hK K
        try simp only [Act.put]
        try simp only [List.setIfInBounds_toArray]
        try simp only [List.set_cons_succ]
        try simp only [List.set_cons_zero]
        refine wpAnyH_ready (rs := [0]) (by kernel_rfl) (by simp) ?_
        refine AllReadyH.cons rfl (fun K hK => ?_) AllReadyH.nil
        go_simp
        refine (plan_any _).mono ?_
        rintro e' yP ⟨rfl, hb⟩
        go_simp
        replace hA := hA.below hb
        replace hK0 := hK0.call hb
        replace hR := row_below hR hb
        refine hK.out _ _ (trivial) (fun hS => ?_)
        clear hK K
        try simp only [Act.put]
        try simp only [List.setIfInBounds_toArray]
        try simp only [List.set_cons_succ]
        try simp only [List.set_cons_zero]
        refine wpAnyH_ready (rs := [3]) (by kernel_rfl) (by simp) ?_
        refine AllReadyH.cons rfl (fun K hK => ?_) AllReadyH.nil
        go_simp
        refine (((stepEnter_any p b 8 shWs ⟨1, 0, -1, 0⟩ 1 0 ⟨cA, 1, kc⟩ (word ⟨1, 0, -1, 0⟩) (word ⟨2, 1, 0, 0⟩) _ hA (by decide) sh_8 (by decide) (by decide) (by decide)).mono fun e w' h => by rw [Hl2.out, show enterW (word ⟨1, 0, -1, 0⟩) (word ⟨1, 0, -1, 0⟩) (word ⟨2, 1, 0, 0⟩) = word ⟨2, 1, 0, 0⟩ from if_pos rfl] at h; exact h)).mono ?_
        rintro e' yS ⟨rfl, hA1, hK1⟩
        go_simp
        replace hK0 := hK0.trans hK1
        replace hR := hK1.row hR (by simpa using N_r.out)
        clear hA
        have hA := hA1
        clear hA1
        refine hK.out _ _ (trivial) (fun hS => ?_)
        clear hK K
        try simp only [Act.put]
        try simp only [List.setIfInBounds_toArray]
        try simp only [List.set_cons_succ]
        try simp only [List.set_cons_zero]
        refine wpAnyH_take_at (i := 4) (v := ?v4x13) (some 23) rfl rfl (by kernel_rfl) (by kernel_rfl) (by kernel_rfl) (fun _ _ _ h => h) (Or.inl ⟨by kernel_rfl, ?h4x13⟩) (by assumption) ?r4x13
        case h4x13 => (intro w hSw; (try dsimp only at hSw); go_simp; first | done | (with_reducible rfl))
        try simp only [Act.put]
        try simp only [List.setIfInBounds_toArray]
        try simp only [List.set_cons_succ]
        try simp only [List.set_cons_zero]
        refine wpAnyH_take_at (i := 5) (v := ?v5x14) (some 28) rfl rfl (by kernel_rfl) (by kernel_rfl) (by kernel_rfl) (fun _ _ _ h => h) (Or.inl ⟨by kernel_rfl, ?h5x14⟩) (by assumption) ?r5x14
        case h5x14 => (intro w hSw; (try dsimp only at hSw); go_simp; first | done | (with_reducible rfl))
        try simp only [Act.put]
        try simp only [List.setIfInBounds_toArray]
        try simp only [List.set_cons_succ]
        try simp only [List.set_cons_zero]
        refine wpAnyH_take_at (i := 6) (v := ?v6x15) (some 29) rfl rfl (by kernel_rfl) (by kernel_rfl) (by kernel_rfl) (fun _ _ _ h => h) (Or.inl ⟨by kernel_rfl, ?h6x15⟩) (by assumption) ?r6x15
        case h6x15 => (intro w hSw; (try dsimp only at hSw); go_simp; first | done | (with_reducible rfl))
        try simp only [Act.put]
        try simp only [List.setIfInBounds_toArray]
        try simp only [List.set_cons_succ]
        try simp only [List.set_cons_zero]
        refine wpAnyH_ready (rs := [7]) (by kernel_rfl) (by simp) ?_
        refine AllReadyH.cons rfl (fun K hK => ?_) AllReadyH.nil
        refine step_store_row none rfl rfl 40 (.tmp 3) (.tmp 28) rfl g_r (toldR (wayR 1 0 ⟨cA, 1, kc⟩ (word ⟨1, 0, -1, 0⟩) (word ⟨2, 1, 0, 0⟩)) 0 0 noS).arr rfl rfl 40 (wayR 1 0 ⟨cA, 1, kc⟩ (word ⟨1, 0, -1, 0⟩) (word ⟨2, 1, 0, 0⟩)).arr hR infoRun rfl (Rn.one _) ?_
        refine hK.out _ _ (trivial) (fun hS => ?_)
        clear hK K
        try simp only [Act.put]
        try simp only [List.setIfInBounds_toArray]
        try simp only [List.set_cons_succ]
        try simp only [List.set_cons_zero]
        refine wpAnyH_take_at (i := 8) (v := ?v8x16) (some 4) rfl rfl (by kernel_rfl) (by kernel_rfl) (by kernel_rfl) (fun _ _ _ h => h) (Or.inl ⟨by kernel_rfl, ?h8x16⟩) (by assumption) ?r8x16
        case h8x16 => (intro w hSw; (try dsimp only at hSw); go_simp; first | done | (with_reducible rfl))
        try simp only [Act.put]
        try simp only [List.setIfInBounds_toArray]
        try simp only [List.set_cons_succ]
        try simp only [List.set_cons_zero]
        refine wpAnyH_done (by kernel_rfl) ?_ _
        go_wp2_with fail
        go_meet
        have hks := (Keep.refl [g_r] yS).setRow (g := g_r) (.inl (by simp)) (toldR (wayR 1 0 ⟨cA, 1, kc⟩ (word ⟨1, 0, -1, 0⟩) (word ⟨2, 1, 0, 0⟩)) 0 0 noS).arr
        exact ⟨rfl, setRow_heap _ _ _ _ _ _ hR, hA.kept hks (by simpa using NP_r.out) (by simpa using fun e => N_r.out e.symm), (hK0.mono (T := [b, g_r]) (fun i _ h => by simp at h ⊢; exact .inl h)).then hks (fun i _ h => by simp at h ⊢; exact .inr h)⟩
    case rest =>
      obtain ⟨rfl, hRr, hA, hK⟩ := hcut
      obtain ⟨w5, hwx⟩ : ∃ x, x = wc := ⟨_, rfl⟩
      subst hwx
      replace HA := Lib.hid hA
      replace B := Lib.hid (Keep.under B.out hK (by have := B.out.size; omega) (by simp; exact ⟨Hb.out, L_r.out⟩))
      replace H_r := Lib.hid hRr
      clear hA hK hRr
      have Hg : Hid ((shWs.set 8 (word ⟨2, 1, 0, 0⟩))[8]? = some (word ⟨2, 1, 0, 0⟩)) := Lib.hid (by decide)
      go_wp2_with fail
      refine (plan_any _).mono ?_
      rintro r w6 ⟨rfl, hb⟩
      have hsz := (hb).size
      replace H_r := Lib.hid (row_below H_r.out hb)
      replace HA := Lib.hid (HA.out.below hb)
      replace B := Lib.hid (below_only B.out hb)
      clear hb hsz
      go_wp2_with fail
      refine (foundCtl_any p b 4 4 0 64 _ 8 1 ⟨2, 1, 0, 0⟩ _ PL HA.out (by decide) Hg.out (by decide) (by decide)).mono ?_
      rintro r w7 ⟨rfl, hb⟩
      have hsz := (hb).size
      replace H_r := Lib.hid (row_below H_r.out hb)
      replace HA := Lib.hid (HA.out.below hb)
      replace B := Lib.hid (below_only B.out hb)
      clear hb hsz
      go_upto_region 8 with fail
      refine one_row w7 _ _ ?_
      intro w8 hr hb
      have hlB := B.out.size
      have hlt := lt_of_heap HA.out.row
      have hlp := lt_of_heap HA.out.box
      have hl_r := lt_of_heap H_r.out
      have hsz := (hb).size
      replace H_r := Lib.hid (row_below H_r.out hb)
      replace HA := Lib.hid (HA.out.below hb)
      replace B := Lib.hid (below_only B.out hb)
      clear hb hsz
      have H_c := Lib.hid (show w8.heap[w7.heap.size]? = some (.cells #[.int .i64 2, .int .i64 1, .int .i64 0, .int .i64 0] 23 (0, 0)) from hr)
      clear hr
      obtain ⟨g_c, hg_c⟩ : ∃ x, x = w7.heap.size := ⟨_, rfl⟩
      rw [← hg_c] at H_c ⊢
      have N_c : Hid (g_c ≠ b) := Lib.hid (by omega)
      have NP_c : Hid (p ≠ g_c) := Lib.hid (by omega)
      clear hlt hlp
      have M_r_c : Hid (g_r ≠ g_c) := Lib.hid (by omega)
      have M_c_r : Hid (g_c ≠ g_r) := Lib.hid (by omega)
      clear hl_r
      have L_c : Hid (w.heap.size ≤ g_c) := Lib.hid (by omega)
      clear hg_c hlB
      obtain ⟨c_0, c_1, c_2, c_3, c_f0, c_f1, c_f2, c_f3⟩ := box4 H_c.out
      have z_c := lt_of_heap H_c.out
      have r_21 : w8.cell? ⟨g_r, 21, none⟩ = some (.bool true) := by rw [row_cell H_r.out]; rfl
      go_wp2_with fail
      go_ret
      exact ⟨rfl, B.out⟩

end Go.Proofs.Ytconieenkeajiaa
