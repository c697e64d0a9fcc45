/- Layer 18: the walks of leave.steps and leave.Step, by the contract of a step's method. (Printed by gen_lvx.py.) Layer 18: a step of a leaving one, whose method makes a slice or none; where the last one stands, in memory. -/
import Derived.Test.YtbijaloeilnjoaaGreatLvG
import Derived.Test.YtbijaloeilnjoaaGreatLP
namespace Go.Proofs.YtbijaloeilnjoaaGreat
open Go.RowKit
set_option linter.unusedVariables false
set_option linter.unusedSimpArgs false

abbrev stepsM : Array MapEntry := #[⟨.int .i64 15, .func (.func 86) #[] #[], 0⟩, ⟨.int .i64 16, .func (.func 87) #[] #[], 1⟩, ⟨.int .i64 17, .func (.func 88) #[] #[], 2⟩, ⟨.int .i64 18, .func (.func 89) #[] #[], 3⟩, ⟨.int .i64 19, .func (.func 90) #[] #[], 4⟩, ⟨.int .i64 20, .func (.func 91) #[] #[], 5⟩, ⟨.int .i64 21, .func (.func 92) #[] #[], 6⟩, ⟨.int .i64 22, .func (.func 93) #[] #[], 7⟩, ⟨.int .i64 23, .func (.func 94) #[] #[], 8⟩, ⟨.int .i64 24, .func (.func 95) #[] #[], 9⟩, ⟨.int .i64 25, .func (.func 96) #[] #[], 10⟩, ⟨.int .i64 26, .func (.func 97) #[] #[], 11⟩]
theorem step_lookup_now {P : Program} {ops : Array Oper} {o : Oper} {a : Act} {w : World} {K : Act → World → Prop} {Q : Exit → Act → World → Prop} {E : Prop} (dd : Option Tmp) (hdd : o.dst = dd) (hgd : o.guard = none) (t : TypeId) (m x : Operand) (ho : o.op = .lookup t m x true)
  (kt et : TypeId) (hm : P.underlying t = some (.map kt et)) (hd : P.underlying kt = some (.int .i64)) (b : Nat) (k : Int) (es : Array MapEntry) (clock : Nat)
  (e1 : a.eval m = .map (some b)) (e2 : a.eval x = .int .i64 k) (hb : w.heap[b]? = some (.map es clock)) (i : Nat) (v : Value) (hf : Instr.findNow (.int .i64) (.int .i64 k) es.toList 0 = some (some (i, v)))
  (h : K (a.put dd (.tuple #[v, .bool true])) w) : if Region.wanted o (yielded ops a.tmps) = true then Oper.wp P o a w K Q else E := by
 subst hdd
 have hw : Region.wanted o (yielded ops a.tmps) = true := by simp [Region.wanted, hgd]
 rw [if_pos hw]
 have hrun : (Instr.lookup t (.map (some b)) (.int .i64 k) true).run P w = .ok (.tuple #[v, .bool true]) w := by
  unfold Instr.lookup
  simp only [Sem.run_bind, Sem.run_pure, run_underlying hm, Result.andThen_ok, MapKept.run_getObj_map hb, MapKept.run_checkKey hd (k := .int .i64 k) (by simp [MapKept.IsKey]), MapKept.run_findKey hd hf]
  simp
 unfold Oper.wp execOp
 simp only [ho, e1, e2, hrun, Sem.run_bind, Sem.run_pure, Result.andThen_ok]
 exact h
set_option maxRecDepth 100000 in
set_option maxHeartbeats 2000000 in
theorem steps18_any (w : World) : Calls Tryz.prog 41 #[] w fun r w' => ∃ m, r = .returned (.map (some m)) ∧ w'.heap[m]? = some (.map stepsM 12) ∧ w.heap.size ≤ m ∧ Below w.heap.size w w' := by
 go_enter Tryz.func41, Tryz.ntmps41
 go_wp2_with (first
  | refine wpList_makeMap rfl 100 rfl ?_
  | (refine wpList_insert rfl 100 _ _ _ rfl 3 98 Tryz.underlying100 Tryz.underlying3 w.heap.size 15 (.func (.func 86) #[] #[]) _ 0 rfl rfl rfl (MapKept.heap_alloc w _).1 rfl ?_; intro w1 hM1 hG1; have HB1 := Lib.hid (below_grown_new hG1))
  | (refine wpList_insert rfl 100 _ _ _ rfl 3 98 Tryz.underlying100 Tryz.underlying3 w.heap.size 16 (.func (.func 87) #[] #[]) _ 1 rfl rfl rfl hM1 rfl ?_; intro w2 hM2 hG2; have HB2 := Lib.hid (below_grown_on HB1.out (Nat.le_refl _) hG2))
  | (refine wpList_insert rfl 100 _ _ _ rfl 3 98 Tryz.underlying100 Tryz.underlying3 w.heap.size 17 (.func (.func 88) #[] #[]) _ 2 rfl rfl rfl hM2 rfl ?_; intro w3 hM3 hG3; have HB3 := Lib.hid (below_grown_on HB2.out (Nat.le_refl _) hG3))
  | (refine wpList_insert rfl 100 _ _ _ rfl 3 98 Tryz.underlying100 Tryz.underlying3 w.heap.size 18 (.func (.func 89) #[] #[]) _ 3 rfl rfl rfl hM3 rfl ?_; intro w4 hM4 hG4; have HB4 := Lib.hid (below_grown_on HB3.out (Nat.le_refl _) hG4))
  | (refine wpList_insert rfl 100 _ _ _ rfl 3 98 Tryz.underlying100 Tryz.underlying3 w.heap.size 19 (.func (.func 90) #[] #[]) _ 4 rfl rfl rfl hM4 rfl ?_; intro w5 hM5 hG5; have HB5 := Lib.hid (below_grown_on HB4.out (Nat.le_refl _) hG5))
  | (refine wpList_insert rfl 100 _ _ _ rfl 3 98 Tryz.underlying100 Tryz.underlying3 w.heap.size 20 (.func (.func 91) #[] #[]) _ 5 rfl rfl rfl hM5 rfl ?_; intro w6 hM6 hG6; have HB6 := Lib.hid (below_grown_on HB5.out (Nat.le_refl _) hG6))
  | (refine wpList_insert rfl 100 _ _ _ rfl 3 98 Tryz.underlying100 Tryz.underlying3 w.heap.size 21 (.func (.func 92) #[] #[]) _ 6 rfl rfl rfl hM6 rfl ?_; intro w7 hM7 hG7; have HB7 := Lib.hid (below_grown_on HB6.out (Nat.le_refl _) hG7))
  | (refine wpList_insert rfl 100 _ _ _ rfl 3 98 Tryz.underlying100 Tryz.underlying3 w.heap.size 22 (.func (.func 93) #[] #[]) _ 7 rfl rfl rfl hM7 rfl ?_; intro w8 hM8 hG8; have HB8 := Lib.hid (below_grown_on HB7.out (Nat.le_refl _) hG8))
  | (refine wpList_insert rfl 100 _ _ _ rfl 3 98 Tryz.underlying100 Tryz.underlying3 w.heap.size 23 (.func (.func 94) #[] #[]) _ 8 rfl rfl rfl hM8 rfl ?_; intro w9 hM9 hG9; have HB9 := Lib.hid (below_grown_on HB8.out (Nat.le_refl _) hG9))
  | (refine wpList_insert rfl 100 _ _ _ rfl 3 98 Tryz.underlying100 Tryz.underlying3 w.heap.size 24 (.func (.func 95) #[] #[]) _ 9 rfl rfl rfl hM9 rfl ?_; intro w10 hM10 hG10; have HB10 := Lib.hid (below_grown_on HB9.out (Nat.le_refl _) hG10))
  | (refine wpList_insert rfl 100 _ _ _ rfl 3 98 Tryz.underlying100 Tryz.underlying3 w.heap.size 25 (.func (.func 96) #[] #[]) _ 10 rfl rfl rfl hM10 rfl ?_; intro w11 hM11 hG11; have HB11 := Lib.hid (below_grown_on HB10.out (Nat.le_refl _) hG11))
  | (refine wpList_insert rfl 100 _ _ _ rfl 3 98 Tryz.underlying100 Tryz.underlying3 w.heap.size 26 (.func (.func 97) #[] #[]) _ 11 rfl rfl rfl hM11 rfl ?_; intro w12 hM12 hG12; have HB12 := Lib.hid (below_grown_on HB11.out (Nat.le_refl _) hG12)))
 go_ret
 exact ⟨_, rfl, hM12, Nat.le_refl _, HB12.out⟩
theorem keep_two {w w7 w9 : World} {g b : Nat} (hb : Below w.heap.size w w7) (k : Keep [g, b] w7 w9) (hg : w.heap.size ≤ g) : Keep [b] w w9 :=
 Keep.mk (k.os.trans hb.os) (k.tape.trans hb.tape) (k.output.trans hb.output) (Nat.le_trans hb.size k.size) (fun i hi hs => (k.block i (Nat.lt_of_lt_of_le hi hb.size) (by simp at hs ⊢; omega)).trans (hb.block i hi))
abbrev lvLit (p : Nat) (s t i h : Int) (fA : Option Addr) (fn fc : Nat) (r : Rn) : Array Value := #[.int .i64 s, .int .i64 t, .int .i64 i, .int .i64 h, .slice fA fn fc, .pointer (some ⟨p, 0, none⟩), .int .u8 r.c.op, .int .u8 r.c.r, .int .u8 r.c.h, .int .u8 r.c.v, .int .i64 r.c.a, .int .i64 r.c.b, .int .i64 r.c.c, .int .i64 r.pc, .int .i64 r.area, .int .u64 r.hand, .int .u64 r.val, r.chain.v, .int .u64 r.word, .int .u64 r.next, .int .i64 r.at_, .int .i64 r.top, r.list.v, .int .i64 r.op, r.said.v, .int .i64 r.n, .bool r.held, .bool r.done, .bool r.point, .int .i64 r.code, .int .i64 r.an, r.asaid.v]
theorem lv_lit (p : Nat) (s t i h : Int) (fA : Option Addr) (fn fc : Nat) (r : Rn) : lvLit p s t i h fA fn fc r = preArr (lvPre p s t i h fA fn fc) r.arr := by simp [preArr]
set_option maxRecDepth 100000 in
set_option maxHeartbeats 2000000 in
theorem lvStep_any (p b : Nat) (s t i h : Int) (fA : Option Addr) (fn fc : Nat) (r : Rn) (w : World) (FF : FuncId) (j : Nat) (KK : Int) (Q : Rn → World → Prop) (hpc : r.pc = KK) (hf : Instr.findNow (.int .i64) (.int .i64 KK) stepsM.toList 0 = some (some (j, .func (.func FF) #[] #[]))) (hd : r.done = false) (hFF : ∀ (v : Array Value) (y : World), Sem.run Tryz.prog (callFunc FF v) y = .ok (.enter FF v) y)
  (hC : ∀ (g z : Nat) (w' : World), w.heap.size ≤ z → z < g → Below w.heap.size w w' → Lvr w' g p s t i h fA fn fc r → Calls Tryz.prog FF #[.pointer (some ⟨g, 0, none⟩)] w' fun e w'' => e = .returned (.tuple #[]) ∧ ∃ R, Lvr w'' g p s t i h fA fn fc R ∧ Keep [g, b] w' w'' ∧ ∀ y, Keep [z] w'' y → Q R y) (hbw : b < w.heap.size) :
  Calls Tryz.prog 15 #[.agg #[.int .i64 s, .int .i64 t, .int .i64 i, .int .i64 h], .slice fA fn fc, .pointer (some ⟨p, 0, none⟩), r.v] w fun e w' => ∃ R, e = .returned (.tuple #[R.v, .int .i64 0]) ∧ Q R w' ∧ Keep [b] w w' := by
 have HC := Lib.hid hC
 have Hf := Lib.hid hf
 have Hpc := Lib.hid hpc
 have Hd := Lib.hid hd
 have Hbw := Lib.hid hbw
 have HFF := Lib.hid hFF
 clear hC hf hpc hd hbw hFF
 go_enter Tryz.func15, Tryz.ntmps15
 go_upto_region 1 with fail
 refine three_rows w _ _ _ _ _ _ ?_
 intro W hP hR hZ hB
 have HP := Lib.hid hP
 have HR := Lib.hid hR
 have HZ := Lib.hid hZ
 have HB := Lib.hid hB
 clear hP hR hZ hB
 try simp only [Act.put]
 go_cut [10, 11] from 13 to 19 (fun va vb wx => va = .func (.func FF) #[] #[] ∧ vb = .bool true ∧ Below W.heap.size W wx)
 case first =>
  as_aux_lemma =>
   refine wp_region_held_drew (S := fun W' => W'.heap[w.heap.size + 1]? = some (.cells r.arr 43 (0, 0))) (by kernel_rfl) (show W.drew.heap[w.heap.size + 1]? = _ from HR.out) ?_
   intro hS
   have hB0 : Below W.heap.size W W.drew := Below.drew (Below.refl _ _)
   generalize W.drew = y0 at hS hB0 ⊢
   refine tk (i := 1) (v := ?v1x34) (some 15) rfl rfl (Or.inl ⟨by kernel_rfl, ?h1x34⟩) ?r1x34
   case h1x34 => (intro w' hSw; have q7 : w'.cell? ⟨w.heap.size + 1, 7, none⟩ = some (.int .i64 KK) := (by rw [row_cell hSw, ← Hpc.out]; rfl); have zq := lt_of_heap hSw; go_simp; first | done | (with_reducible rfl))
   try simp only [zA, zB, zC, zD, zE]
   refine tk (i := 2) (v := ?v2x35) (some 16) rfl rfl (Or.inl ⟨by kernel_rfl, ?h2x35⟩) ?r2x35
   case h2x35 => (intro w' hSw; have q7 : w'.cell? ⟨w.heap.size + 1, 7, none⟩ = some (.int .i64 KK) := (by rw [row_cell hSw, ← Hpc.out]; rfl); have zq := lt_of_heap hSw; go_simp; first | done | (with_reducible rfl))
   try simp only [zA, zB, zC, zD, zE]
   refine wpAnyH_ready (rs := [0]) (by kernel_rfl) (by simp) ?_
   refine AllReadyH.cons rfl (fun K hK => ?_) AllReadyH.nil
   go_simp
   refine (steps18_any _).mono ?_
   rintro e' y1 ⟨m, rfl, hM, hMn, hb⟩
   go_simp
   replace hB0 := below_only hB0 hb
   refine hK.out _ _ (row_below hS hb) (fun hS => ?_)
   clear hK K
   try simp only [zA, zB, zC, zD, zE]
   clear hb hMn
   refine wpAnyH_ready (rs := [3]) (by kernel_rfl) (by simp) ?_
   refine AllReadyH.cons rfl (fun K hK => ?_) AllReadyH.nil
   refine step_lookup_now (some 17) rfl rfl 100 (.tmp 14) (.tmp 16) rfl 3 98 Tryz.underlying100 Tryz.underlying3 m KK stepsM 12 rfl rfl hM j _ Hf.out ?_
   refine hK.out _ _ (hS) (fun hS => ?_)
   clear hK K
   try simp only [zA, zB, zC, zD, zE]
   refine tk (i := 4) (v := ?v4x36) (some 13) rfl rfl (Or.inl ⟨by kernel_rfl, ?h4x36⟩) ?r4x36
   case h4x36 => (intro w' hSw; have q7 : w'.cell? ⟨w.heap.size + 1, 7, none⟩ = some (.int .i64 KK) := (by rw [row_cell hSw, ← Hpc.out]; rfl); have zq := lt_of_heap hSw; go_simp; first | done | (with_reducible rfl))
   try simp only [zA, zB, zC, zD, zE]
   refine tk (i := 5) (v := ?v5x37) (some 18) rfl rfl (Or.inl ⟨by kernel_rfl, ?h5x37⟩) ?r5x37
   case h5x37 => (intro w' hSw; have q7 : w'.cell? ⟨w.heap.size + 1, 7, none⟩ = some (.int .i64 KK) := (by rw [row_cell hSw, ← Hpc.out]; rfl); have zq := lt_of_heap hSw; go_simp; first | done | (with_reducible rfl))
   try simp only [zA, zB, zC, zD, zE]
   refine tk (i := 6) (v := ?v6x38) (some 19) rfl rfl (Or.inl ⟨by kernel_rfl, ?h6x38⟩) ?r6x38
   case h6x38 => (intro w' hSw; have q7 : w'.cell? ⟨w.heap.size + 1, 7, none⟩ = some (.int .i64 KK) := (by rw [row_cell hSw, ← Hpc.out]; rfl); have zq := lt_of_heap hSw; go_simp; first | done | (with_reducible rfl))
   try simp only [zA, zB, zC, zD, zE]
   refine tk (i := 7) (v := ?v7x39) (some 10) rfl rfl (Or.inl ⟨by kernel_rfl, ?h7x39⟩) ?r7x39
   case h7x39 => (intro w' hSw; have q7 : w'.cell? ⟨w.heap.size + 1, 7, none⟩ = some (.int .i64 KK) := (by rw [row_cell hSw, ← Hpc.out]; rfl); have zq := lt_of_heap hSw; go_simp; first | done | (with_reducible rfl))
   try simp only [zA, zB, zC, zD, zE]
   refine tk (i := 8) (v := ?v8x40) (some 11) rfl rfl (Or.inl ⟨by kernel_rfl, ?h8x40⟩) ?r8x40
   case h8x40 => (intro w' hSw; have q7 : w'.cell? ⟨w.heap.size + 1, 7, none⟩ = some (.int .i64 KK) := (by rw [row_cell hSw, ← Hpc.out]; rfl); have zq := lt_of_heap hSw; go_simp; first | done | (with_reducible rfl))
   try simp only [zA, zB, zC, zD, zE]
   refine wpAnyH_done (by kernel_rfl) ?_ _
   go_wp2_with fail
   go_meet
   exact ⟨rfl, rfl, hB0⟩
 case rest =>
  obtain ⟨rfl, rfl, hb⟩ := hcut
  obtain ⟨w1, hwx⟩ : ∃ x, x = wc := ⟨_, rfl⟩
  subst hwx
  replace HP := Lib.hid (row_below HP.out hb)
  replace HR := Lib.hid (row_below HR.out hb)
  replace HZ := Lib.hid (row_below HZ.out hb)
  replace HB := Lib.hid (below_only HB.out hb)
  clear hb
  have q21 : w1.cell? ⟨w.heap.size + 1, 21, none⟩ = some (.bool false) := by rw [row_cell HR.out, ← Hd.out]; rfl
  have z1 := lt_of_heap HR.out
  obtain ⟨x0, x1, x2, x3, _⟩ := box4 HP.out
  have z0 := lt_of_heap HP.out
  go_upto_region 5 with (refine wpList_load_row rfl 43 (.tmp 7) rfl (w.heap.size + 1) rfl 43 r.arr (0, 0) _ HR.out undRun rfl infoRun ?_)
  clear q21 z1 x0 x1 x2 x3 z0
  refine one_row w1 _ _ ?_
  intro w7 hC hb
  obtain ⟨g, Hg⟩ : ∃ g, g = w1.heap.size := ⟨_, rfl⟩
  rw [← Hg] at hC ⊢
  have HT : Hid (Lvr w7 g p s t i h fA fn fc r) := Lib.hid (hC.trans (by rw [← lv_lit]))
  have Hgz : Hid (w.heap.size + 1 + 1 < g) := Lib.hid (by have := lt_of_heap HZ.out; omega)
  replace HZ := Lib.hid (row_below HZ.out hb)
  have HB7 := Lib.hid (below_only HB.out hb)
  clear hC hb Hg HP HR HB
  go_wp2_with fail
  rw [HFF.out, Oper.upon_enter]
  refine (HC.out g (w.heap.size + 1 + 1) w7 (by omega) Hgz.out HB7.out HT.out).mono ?_
  rintro e' w9 ⟨rfl, R, hT9, hK9, hQ⟩
  have HT9 := Lib.hid hT9
  have HQ := Lib.hid hQ
  replace HZ := Lib.hid (hK9.row HZ.out (by have h1 := Hgz.out; have h2 := Hbw.out; simp; omega))
  have HK9 : Hid (Keep [b] w w9) := Lib.hid (keep_two HB7.out hK9 (by have := Hgz.out; omega))
  have zg := lt_of_heap hT9
  clear hT9 hK9 HB7 HT HC hQ
  go_wp2_with (first | refine wpList_load_sub rfl 43 (.tmp 38) rfl g 6 rfl 104 _ R.arr (0, 0) _ HT9.out (fun j v hv => lv_sub j v hv) undRun rfl infoRun ?_ | refine wpList_store_row rfl 43 (.tmp 8) (.tmp 39) rfl (w.heap.size + 1 + 1) R.arr rfl rfl 43 ZRun HZ.out infoRun rfl (Rn.one _) ?_)
  refine bodyPost_ret (results_cell_row_tmp (fn := Tryz.f15) rfl _ _ (w.heap.size + 1 + 1) 43 R.arr (0, 0) _ rfl (setRow_heap w9 _ _ _ _ (0, 0) HZ.out) undRun rfl infoRun) rfl ?_
  have hk := (Keep.refl [w.heap.size + 1 + 1] w9).setRow (g := w.heap.size + 1 + 1) (.inl (by simp)) R.arr
  exact ⟨R, rfl, HQ.out _ hk, HK9.out.setRow (.inr (by omega)) _⟩
end Go.Proofs.YtbijaloeilnjoaaGreat

namespace Go.Proofs.YtbijaloeilnjoaaGreat
open Go.RowKit
set_option linter.unusedVariables false
set_option linter.unusedSimpArgs false

theorem Cells.kept2 {S : List Nat} {w w' : World} {A : Option Addr} {cs : List Value} (h : Cells w A cs) (k : Keep S w w') (hn : ∀ a, A = some a → a.block < w.heap.size → a.block ∉ S) : Cells w' A cs := fun h0 => by
 obtain ⟨b, off, e, hb, hc⟩ := Cells.at_ h h0
 exact Cells.kept h k (fun a ha => hn a ha (by rw [e] at ha; injection ha with ha; subst ha; exact hb)) h0
def goesTo (FF : FuncId) : Prop := ∀ (v : Array Value) (y : World), Sem.run Tryz.prog (callFunc FF v) y = .ok (.enter FF v) y
section
variable (p b : Nat) (s t i h : Int) (fA : Option Addr) (fn fc : Nat) (r : Rn) (w : World) (FF : FuncId) (j : Nat) (KK : Int) (ws ws' : List Int)
theorem lvStepL_any (F : Sl → Rn) (P : Sl → Prop) (cs : List Value) (hpc : r.pc = KK) (hf : Instr.findNow (.int .i64) (.int .i64 KK) stepsM.toList 0 = some (some (j, .func (.func FF) #[] #[]))) (hd : r.done = false) (hFF : goesTo FF)
  (hA : Arn w p b ws)
  (hC : ∀ (g : Nat) (w' : World), Below w.heap.size w w' → w.heap.size ≤ g → Lvr w' g p s t i h fA fn fc r → Arn w' p b ws → g ≠ b → g ≠ p → Calls Tryz.prog FF #[.pointer (some ⟨g, 0, none⟩)] w' fun e w'' => e = .returned (.tuple #[]) ∧ ∃ s2 : Sl, Lvr w'' g p s t i h fA fn fc (F s2) ∧ P s2 ∧ Cells w'' s2.a cs ∧ (∀ z, s2.a = some z → w'.heap.size ≤ z.block) ∧ Arn w'' p b ws' ∧ Keep [g, b] w' w'') :
  Calls Tryz.prog 15 #[.agg #[.int .i64 s, .int .i64 t, .int .i64 i, .int .i64 h], .slice fA fn fc, .pointer (some ⟨p, 0, none⟩), r.v] w fun e w' => ∃ s2, e = .returned (.tuple #[(F s2).v, .int .i64 0]) ∧ P s2 ∧ Cells w' s2.a cs ∧ (∀ z, s2.a = some z → w.heap.size ≤ z.block) ∧ Arn w' p b ws' ∧ Keep [b] w w' := by
 have hb := lt_of_heap hA.row
 have hp := lt_of_heap hA.box
 refine (lvStep_any p b s t i h fA fn fc r w FF j KK (fun R w' => ∃ s2, R = F s2 ∧ P s2 ∧ Cells w' s2.a cs ∧ (∀ z, s2.a = some z → w.heap.size ≤ z.block) ∧ Arn w' p b ws') hpc hf hd hFF ?_ hb).mono ?_
 ·intro g z w' hz hzg hbw hT
  have hg := lt_of_heap hT
  refine (hC g w' hbw (by omega) hT (hA.below hbw) (by omega) (by omega)).mono ?_
  rintro e w'' ⟨rfl, s2, hT2, hP, hcs, hfr, hA2, hk⟩
  refine ⟨rfl, F s2, hT2, hk, fun y hy => ⟨s2, rfl, hP, Cells.kept2 hcs hy (fun a ha hl => by have := hfr a ha; simp; omega), fun a ha => Nat.le_trans hbw.size (hfr a ha), hA2.kept hy (by simp; omega) (by simp; omega)⟩⟩
 ·rintro e w' ⟨R, rfl, ⟨s2, rfl, h1, h2, h3, h4⟩, hk⟩
  exact ⟨s2, rfl, h1, h2, h3, h4, hk⟩
theorem lvStepS_any (R : Rn) (hpc : r.pc = KK) (hf : Instr.findNow (.int .i64) (.int .i64 KK) stepsM.toList 0 = some (some (j, .func (.func FF) #[] #[]))) (hd : r.done = false) (hFF : goesTo FF)
  (hA : Arn w p b ws)
  (hC : ∀ (g : Nat) (w' : World), Below w.heap.size w w' → w.heap.size ≤ g → Lvr w' g p s t i h fA fn fc r → Arn w' p b ws → g ≠ b → g ≠ p → Calls Tryz.prog FF #[.pointer (some ⟨g, 0, none⟩)] w' fun e w'' => e = .returned (.tuple #[]) ∧ Lvr w'' g p s t i h fA fn fc R ∧ Arn w'' p b ws' ∧ Keep [g, b] w' w'') :
  Calls Tryz.prog 15 #[.agg #[.int .i64 s, .int .i64 t, .int .i64 i, .int .i64 h], .slice fA fn fc, .pointer (some ⟨p, 0, none⟩), r.v] w fun e w' => e = .returned (.tuple #[R.v, .int .i64 0]) ∧ Arn w' p b ws' ∧ Keep [b] w w' := by
 refine (lvStepL_any p b s t i h fA fn fc r w FF j KK ws ws' (fun _ => R) (fun s2 => s2 = noS) [] hpc hf hd hFF hA ?_).mono ?_
 ·intro g w' h1 h2 h3 h4 h5 h6
  refine (hC g w' h1 h2 h3 h4 h5 h6).mono ?_
  rintro e w'' ⟨rfl, hT, hA2, hk⟩
  exact ⟨rfl, noS, hT, rfl, Cells.nil, by simp, hA2, hk⟩
 ·rintro e w' ⟨s2, rfl, rfl, _, _, h4, hk⟩
  exact ⟨rfl, h4, hk⟩
end

def ctlOf (c : Ctl) (s : La) : Ctl := if s.done = true then (if s.pc = 22 then (hold c).1 else (openC c).1) else c
def topOf (s : La) : Int := if s.pc = 26 then 0 else 8 * (used s.obs : Int)
def gateOf (s : La) : Int := if s.pc ≤ 23 then 99 else 0
def extOf (s : La) : List Int := if s.pc ≤ 23 then extE s.obs else zeroE s.obs s.z
/-- the words behind its steps -/
def wsOf (c : Ctl) (s : La) : List Int := wsL (ctlOf c s) (topOf s) (gateOf s) (extOf s)
def atLa (s : La) : Int := if s.pc = 17 then 0 else if s.pc ≤ 23 then 128 + 8 * (offs s.obs s.i : Int) else 128 + 8 * (s.z : Int)
def topLa (s : La) : Int := if s.pc ≤ 18 then 0 else 128 + 8 * (used s.obs : Int)
/-- its Run -/
def rLa (r0 : Rn) (s : La) (ls sd : Sl) : Rn := { r0 with pc := s.pc, word := if s.pc = 17 then r0.word else 128, at_ := atLa s, top := topLa s, list := ls, op := (s.op : Int), said := sd, n := (s.n : Int), held := s.held }
abbrev plLa (l : List Ob) (j : Nat) : Int := 128 + 8 * (offs l j : Int)
structure SlAt (w : World) (b : Nat) (T : List Nat) (s : Sl) (l : List Int) : Prop where
 n : s.n = l.length
 c : s.n ≤ s.c
 e : Cells w s.a (l.flatMap nCells)
 b : ∀ z, s.a = some z → z.block ≠ b
 t : 0 < l.length → ∀ z, s.a = some z → z.block ∉ T
theorem Cells.keptG {S : List Nat} {w w' : World} {A : Option Addr} {l : List Int} (h : Cells w A (l.flatMap nCells)) (k : Keep S w w') (hn : 0 < l.length → ∀ a, A = some a → a.block ∉ S) : Cells w' A (l.flatMap nCells) := fun h0 => (Cells.kept h k (hn (by rw [flat_length nCells 1 (fun _ => rfl) l] at h0; omega))) h0
theorem SlAt.kept {w w' : World} {b : Nat} {T : List Nat} {s : Sl} {l : List Int} (h : SlAt w b T s l) (k : Keep [b] w w') : SlAt w' b T s l := ⟨h.n, h.c, Cells.kept h.e k (fun a ha => by simpa using h.b a ha), h.b, h.t⟩
theorem SlAt.below {w w' : World} {b : Nat} {T : List Nat} {s : Sl} {l : List Int} (h : SlAt w b T s l) (k : Below w.heap.size w w') : SlAt w' b T s l := ⟨h.n, h.c, Cells.below h.e k, h.b, h.t⟩
theorem SlAt.no (w : World) (b : Nat) (T : List Nat) : SlAt w b T noS [] := ⟨rfl, Nat.le_refl _, Cells.nil, by simp, by simp⟩
structure LvAt (w : World) (b : Nat) (T : List Nat) (c : Ctl) (r0 : Rn) (s : La) (ls sd : Sl) (r : Rn) : Prop where
 r : r = rLa r0 s ls sd
 ar : r0.area = 1
 dn : r0.done = false
 nx : r0.next = word c
 ls : SlAt w b T ls (s.todo.map (plLa s.obs))
 sd : SlAt w b T sd s.said
structure Drained (c : Ctl) : Prop where
 r : Right c
 st : c.st = 3
theorem Drained.hold {c : Ctl} (h : Drained c) : Right (hold c).1 ∧ hold c = ((hold c).1, 0) := by
 obtain ⟨h1, h2, h3⟩ := h.r
 have e : ofState c 3 = 0 := by unfold ofState; rw [if_neg (fun hn => hn h.r), if_neg (fun hn => hn h.st)]
 unfold Go.Proofs.YtbijaloeilnjoaaGreat.hold
 rw [if_neg (by rw [e]; simp)]
 refine ⟨⟨h1, h2, ?_⟩, rfl⟩
 have := h.st
 simp
 omega
theorem Drained.opn {c : Ctl} (h : Drained c) : Right (openC c).1 ∧ openC c = ((openC c).1, 0) := by
 obtain ⟨h1, h2, h3⟩ := h.r
 have e : ofState c 3 = 0 := by unfold ofState; rw [if_neg (fun hn => hn h.r), if_neg (fun hn => hn h.st)]
 unfold openC
 rw [if_neg (by rw [e]; simp)]
 refine ⟨⟨?_, ?_, ?_⟩, rfl⟩
 ·simp; omega
 ·simp; omega
 ·simp
end Go.Proofs.YtbijaloeilnjoaaGreat
