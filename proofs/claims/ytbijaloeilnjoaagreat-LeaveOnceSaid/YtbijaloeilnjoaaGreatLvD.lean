/- Layer 18: the walks of leaver's further, on, zeros. (Printed by gen_lva.py.) -/
import Derived.Test.YtbijaloeilnjoaaGreatLvA
namespace Go.Proofs.YtbijaloeilnjoaaGreat
open Go.RowKit
set_option linter.unusedVariables false
set_option linter.unusedSimpArgs false

def furtherP (r : Rn) : Int := if r.list.n = 0 then (if r.held then 22 else 23) else 20
set_option maxRecDepth 100000 in
set_option maxHeartbeats 2000000 in
theorem lvFurther_any (g p : Nat) (s t i h : Int) (fA : Option Addr) (fn fc : Nat) (r : Rn) (w : World) (hT : Lvr w g p s t i h fA fn fc r) (hn : r.list.n ≤ 1048576) :
  Calls Tryz.prog 133 #[.pointer (some ⟨g, 0, none⟩)] w fun e w' => e = .returned (.tuple #[]) ∧ Lvr w' g p s t i h fA fn fc { r with pc := furtherP r } ∧ Keep [g] w w' := by
 have HT := Lib.hid hT
 have HN : Hid ((r.list.n : Int) ≤ 1048576 ∧ 0 ≤ (r.list.n : Int)) := Lib.hid (by omega)
 clear hT hn
 obtain ⟨n1, n0⟩ := HN.out
 obtain ⟨ln, Hln⟩ : ∃ x, Hid (r.list.n = x) := ⟨_, Lib.hid rfl⟩
 obtain ⟨lh, Hlh⟩ : ∃ x, Hid (r.held = x) := ⟨_, Lib.hid rfl⟩
 obtain ⟨v0, v1, v2, v3, v4, v5, v13, v14, v18, v19, v20, v21, v22, v23, v24, v25, v26, vf13, vf18, vf19, vf20, vf21, vf22, vf23, vf24, vf25, vf26, vz⟩ := lv_box HT.out
 rw [Hln.out] at n1 n0
 replace v22 : w.cell? ⟨g, 22, none⟩ = some (.slice r.list.a ln r.list.c) := by rw [← Hln.out]; exact v22
 rw [Hlh.out] at v26
 go_enter Tryz.func133, Tryz.ntmps133
 by_cases h0 : ln = 0
 ·subst h0
  cases lh with
  | true =>
   go_wp2_with fail
   go_end0
   have e := HT.out.set_pc 22
   have hp : furtherP r = 22 := by unfold furtherP; rw [Hln.out, if_pos rfl, Hlh.out]; rfl
   exact ⟨rfl, by rw [hp]; exact e, (Keep.refl _ _).setCell (p := ⟨g, 13, none⟩) (.inl (by simp)) _⟩
  | false =>
   go_wp2_with fail
   go_end0
   have e := HT.out.set_pc 23
   have hp : furtherP r = 23 := by unfold furtherP; rw [Hln.out, if_pos rfl, Hlh.out]; rfl
   exact ⟨rfl, by rw [hp]; exact e, (Keep.refl _ _).setCell (p := ⟨g, 13, none⟩) (.inl (by simp)) _⟩
 ·have hI : (0 : Int) < (ln : Int) := by omega
  have H0 := Lib.hid h0
  clear h0
  go_wp2_with fail
  go_end0
  have e := HT.out.set_pc 20
  have hp : furtherP r = 20 := by unfold furtherP; rw [Hln.out, if_neg H0.out]
  exact ⟨rfl, by rw [hp]; exact e, (Keep.refl _ _).setCell (p := ⟨g, 13, none⟩) (.inl (by simp)) _⟩
set_option maxRecDepth 100000 in
set_option maxHeartbeats 2000000 in
theorem lvFurtherD_any (g p : Nat) (s t i h : Int) (fA : Option Addr) (fn fc : Nat) (r : Rn) (u : FrameMode) (w : World) (hT : Lvr w g p s t i h fA fn fc r) (hn : r.list.n ≤ 1048576) :
  CallsD Tryz.prog 133 #[.pointer (some ⟨g, 0, none⟩)] u w fun e u' w' => u' = u ∧ (e = .returned (.tuple #[]) ∧ Lvr w' g p s t i h fA fn fc { r with pc := furtherP r } ∧ Keep [g] w w') := by
 have HT := Lib.hid hT
 have HN : Hid ((r.list.n : Int) ≤ 1048576 ∧ 0 ≤ (r.list.n : Int)) := Lib.hid (by omega)
 clear hT hn
 obtain ⟨n1, n0⟩ := HN.out
 obtain ⟨ln, Hln⟩ : ∃ x, Hid (r.list.n = x) := ⟨_, Lib.hid rfl⟩
 obtain ⟨lh, Hlh⟩ : ∃ x, Hid (r.held = x) := ⟨_, Lib.hid rfl⟩
 obtain ⟨v0, v1, v2, v3, v4, v5, v13, v14, v18, v19, v20, v21, v22, v23, v24, v25, v26, vf13, vf18, vf19, vf20, vf21, vf22, vf23, vf24, vf25, vf26, vz⟩ := lv_box HT.out
 rw [Hln.out] at n1 n0
 replace v22 : w.cell? ⟨g, 22, none⟩ = some (.slice r.list.a ln r.list.c) := by rw [← Hln.out]; exact v22
 rw [Hlh.out] at v26
 go_enter_d Tryz.func133, Tryz.ntmps133
 by_cases h0 : ln = 0
 ·subst h0
  cases lh with
  | true =>
   go_wp2_with fail
   go_end0
   have e := HT.out.set_pc 22
   have hp : furtherP r = 22 := by unfold furtherP; rw [Hln.out, if_pos rfl, Hlh.out]; rfl
   exact ⟨rfl, by rw [hp]; exact e, (Keep.refl _ _).setCell (p := ⟨g, 13, none⟩) (.inl (by simp)) _⟩
  | false =>
   go_wp2_with fail
   go_end0
   have e := HT.out.set_pc 23
   have hp : furtherP r = 23 := by unfold furtherP; rw [Hln.out, if_pos rfl, Hlh.out]; rfl
   exact ⟨rfl, by rw [hp]; exact e, (Keep.refl _ _).setCell (p := ⟨g, 13, none⟩) (.inl (by simp)) _⟩
 ·have hI : (0 : Int) < (ln : Int) := by omega
  have H0 := Lib.hid h0
  clear h0
  go_wp2_with fail
  go_end0
  have e := HT.out.set_pc 20
  have hp : furtherP r = 20 := by unfold furtherP; rw [Hln.out, if_neg H0.out]
  exact ⟨rfl, by rw [hp]; exact e, (Keep.refl _ _).setCell (p := ⟨g, 13, none⟩) (.inl (by simp)) _⟩
def onP (r : Rn) : Int := if r.at_ < r.top then 19 else furtherP r
set_option maxRecDepth 100000 in
set_option maxHeartbeats 2000000 in
theorem lvOnD_any (g p : Nat) (s t i h : Int) (fA : Option Addr) (fn fc : Nat) (r : Rn) (u : FrameMode) (w : World) (hT : Lvr w g p s t i h fA fn fc r) (hn : r.list.n ≤ 1048576) :
  CallsD Tryz.prog 127 #[.pointer (some ⟨g, 0, none⟩)] u w fun e u' w' => u' = u ∧ (e = .returned (.tuple #[]) ∧ Lvr w' g p s t i h fA fn fc { r with pc := onP r } ∧ Keep [g] w w') := by
 have HF := fun w' (hq : Lvr w' g p s t i h fA fn fc r) => Lib.hid (lvFurther_any g p s t i h fA fn fc r w' hq hn)
 have HT := Lib.hid hT
 clear hT hn
 obtain ⟨v0, v1, v2, v3, v4, v5, v13, v14, v18, v19, v20, v21, v22, v23, v24, v25, v26, vf13, vf18, vf19, vf20, vf21, vf22, vf23, vf24, vf25, vf26, vz⟩ := lv_box HT.out
 go_enter_d Tryz.func127, Tryz.ntmps127
 by_cases h0 : r.at_ < r.top
 ·have h1 : decide (r.at_ < r.top) = true := decide_eq_true h0
  have H0 := Lib.hid h0
  go_wp2_with fail
  go_quiet (fail)
  go_wp2_with fail
  first | go_end0 | refine bodyPost_ret (results_none rfl _ _ _) rfl ?_
  have hp : onP r = 19 := by unfold onP; rw [if_pos H0.out]
  refine ⟨rfl, ?_, ((Keep.refl _ _).drewN _).setCell (p := ⟨g, 13, none⟩) (.inl (by simp)) _⟩
  rw [hp]
  exact Lvr.set_pc (w := w.drewN _) HT.out 19
 ·have h1 : decide (r.at_ < r.top) = false := decide_eq_false h0
  have H0 := Lib.hid h0
  go_wp2_with fail
  go_quiet (fail)
  go_wp2_with fail
  refine (HF (w.drewN _) HT.out).out.mono ?_
  rintro e w1 ⟨rfl, h1, h2⟩
  go_wp2_with fail
  first | go_end0 | refine bodyPost_ret (results_none rfl _ _ _) rfl ?_
  have hp : onP r = furtherP r := by unfold onP; rw [if_neg (by have := H0.out; omega)]
  exact ⟨rfl, by rw [hp]; exact h1, ((Keep.refl _ _).drewN _).trans h2⟩
def zerosP (a t : Int) : Int := if a < t then 24 else 25
theorem leaves_tmps {P : Program} {fn : Func} {R : Ending → World → Prop} (hf : fn.results = #[]) (tmps tmps' : Array Value) : ∀ (ds : List Deferred) (u : FrameMode) (w : World), Leaves P fn tmps R ds u w → Leaves P fn tmps' R ds u w
 | [], .returning, w, h => by
  obtain ⟨v, h1, h2⟩ := h
  refine ⟨v, ?_, h2⟩
  rw [results_none hf tmps P w] at h1
  rw [results_none hf tmps' P w]
  exact h1
 | [], .panicking chain, w, h => h
 | [], .run, w, h => h
 | d :: ds, u, w, h => by
  obtain ⟨h0, fv, cap, f, args, h1, h2, h3⟩ := h
  refine ⟨h0, fv, cap, f, args, h1, h2, h3.mono ?_⟩
  intro e u' w' h
  cases e with
  | returned v => exact leaves_tmps hf tmps tmps' ds _ _ h
  | panicked c => exact leaves_tmps hf tmps tmps' ds _ _ h
  | outgrown => exact h
theorem putD {P : Program} {fn : Func} {R : Ending → World → Prop} (hf : fn.results = #[]) {d : Option Tmp} {v : Value} {c : List PanicEntry} {a : Act} {w : World} (h : bodyPostD P fn R (.panic c) (a.put d v) w) : bodyPostD P fn R (.panic c) a w := by
 have h2 : (a.put d v).defers = a.defers := by cases d <;> rfl
 have h3 := leaves_tmps hf _ a.tmps _ _ _ h
 rw [h2] at h3
 exact h3
theorem tkD {P : Program} {md : Region.Mode} {ops : Array Oper} {Q : Exit → Act → World → Prop} {S : World → Prop} {i : Nat} {oi : Oper} {v : Value} {fuel : Nat} {listed : Array Bool} {a : Act} {w : World} (d : Option Tmp) (hi : ops[i]? = some oi) (hd : oi.dst = d)
 (hy : YieldsIf P ops S oi v a) (h : wpAnyH P md ops Q S fuel (listed.setIfInBounds i true) (a.put d v) w)
 (hs : Region.noSelect ops = true := by kernel_rfl) (hf : Region.free md ops listed i = true := by kernel_rfl) (hr : (Region.ready md ops listed).contains i = true := by kernel_rfl)
 (hQ : ∀ c a w, Q (.panic c) (a.put d v) w → Q (.panic c) a w := by exact fun _ _ _ h => putD rfl h) (hS : S w := by assumption) : wpAnyH P md ops Q S (fuel + 1) listed a w :=
 wpAnyH_take_at d hi hd hs hf hr hQ hy hS h
set_option maxRecDepth 100000 in
set_option maxHeartbeats 2000000 in
theorem lvZerosD_any (g p : Nat) (s t i h : Int) (fA : Option Addr) (fn fc : Nat) (r : Rn) (u : FrameMode) (w : World) (hT : Lvr w g p s t i h fA fn fc r) :
  CallsD Tryz.prog 137 #[.pointer (some ⟨g, 0, none⟩)] u w fun e u' w' => u' = u ∧ (e = .returned (.tuple #[]) ∧ Lvr w' g p s t i h fA fn fc { r with pc := zerosP r.at_ r.top } ∧ Keep [g] w w') := by
 have HT := Lib.hid hT
 clear hT
 have v9 := lv_box HT.out
 go_enter_d Tryz.func137, Tryz.ntmps137
 go_upto_region 1 with fail
 clear v9
 refine set_oneR w g 13 (.int .i64 25) _ _ HT.out ?_
 intro w1 hr hk
 rw [pre_set _ _ 13 7 _ rfl] at hr
 have HT1 : Hid (Lvr w1 g p s t i h fA fn fc { r with pc := 25 }) := Lib.hid hr
 have HK := Lib.hid hk
 clear hr hk
 obtain ⟨v0, v1, v2, v3, v4, v5, v13, v14, v18, v19, v20, v21, v22, v23, v24, v25, v26, vf13, vf18, vf19, vf20, vf21, vf22, vf23, vf24, vf25, vf26, vz⟩ := lv_box HT1.out
 by_cases h0 : r.at_ < r.top
 ·have h1 : decide (r.at_ < r.top) = true := decide_eq_true h0
  have H0 := Lib.hid h0
  go_wp2_with fail
  go_quiet (fail)
  go_wp2_with fail
  first | go_end0 | refine bodyPost_ret (results_none rfl _ _ _) rfl ?_
  refine ⟨rfl, ?_, (HK.out.drewN _).setCell (p := ⟨g, 13, none⟩) (.inl (by simp)) _⟩
  have hz : zerosP r.at_ r.top = 24 := by unfold zerosP; rw [if_pos H0.out]
  rw [hz]
  exact Lvr.set_pc (w := w1.drewN _) HT1.out 24
 ·have h1 : decide (r.at_ < r.top) = false := decide_eq_false h0
  have H0 := Lib.hid h0
  go_wp2_with fail
  go_quiet (fail)
  go_wp2_with fail
  first | go_end0 | refine bodyPost_ret (results_none rfl _ _ _) rfl ?_
  refine ⟨rfl, ?_, HK.out.drewN _⟩
  have hz : zerosP r.at_ r.top = 25 := by unfold zerosP; rw [if_neg (by have := H0.out; omega)]
  rw [hz]
  exact HT1.out
end Go.Proofs.YtbijaloeilnjoaaGreat
