/- Layer 16: the walks of slots.refusedAt and slots.Step, by contracts of its parts. (Printed by gen_step16.py.) -/
import Derived.Test.YtnimaajnlkbdaaaGreatUse
namespace Go.Proofs.YtnimaajnlkbdaaaGreat
open Go.RowKit
set_option linter.unusedVariables false
set_option linter.unusedSimpArgs false

theorem yieldsIf_row16 {P : Program} {ops : Array Oper} {S : World → Prop} {op : Oper} {a : Act} (hw : Region.wanted op (yielded ops a.tmps) = true) (ty : TypeId) (x : Operand) (ho : op.op = .load ty x)
  (g : Nat) (hx : a.eval x = .pointer (some ⟨g, 0, none⟩)) (cs : Array Value) {t : TypeId} {fr : Nat × Nat} {d : TypeDesc} (hS : ∀ w, S w → w.heap[g]? = some (.cells cs t fr))
  (hu : P.underlying ty = some d) (hd : (match d with | .struct _ | .array _ _ => true | _ => false) = true) (hi : (P.info? ty).map (·.size) = some cs.size) : YieldsIf P ops S op (.agg cs) a :=
 .inl ⟨hw, fun w hw' => by
  unfold execOp
  simp only [ho, hx, Instr.loadAt, Instr.sureAddr, Sem.run_bind, Sem.run_pure, Result.andThen_ok, run_loadVar_row w g t ty cs fr d (hS w hw') hu hd hi]⟩
theorem yieldsIf_load_sub {P : Program} {ops : Array Oper} {S : World → Prop} {op : Oper} {a : Act} (hw : Region.wanted op (yielded ops a.tmps) = true) (ty : TypeId) (x : Operand) (ho : op.op = .load ty x)
  (g off : Nat) (hx : a.eval x = .pointer (some ⟨g, off, none⟩)) (cur cs : Array Value) {t : TypeId} {fr : Nat × Nat} {d : TypeDesc} (hS : ∀ w, S w → w.heap[g]? = some (.cells cur t fr))
  (hc : ∀ j v, cs[j]? = some v → cur[off + j]? = some v)
  (hu : P.underlying ty = some d) (hd : (match d with | .struct _ | .array _ _ => true | _ => false) = true) (hi : (P.info? ty).map (·.size) = some cs.size) : YieldsIf P ops S op (.agg cs) a :=
 .inl ⟨hw, fun w hw' => by
  unfold execOp
  simp only [ho, hx, Instr.loadAt, Instr.sureAddr, Sem.run_bind, Sem.run_pure, Result.andThen_ok, run_loadVar_sub w g off t ty cur cs fr d (hS w hw') hc hu hd hi]⟩
abbrev useLit (p : Nat) (s t i h : Int) (r : Rn) (e : Int) : Array Value := #[.int .i64 s, .int .i64 t, .int .i64 i, .int .i64 h, .pointer (some ⟨p, 0, none⟩), .int .u8 r.c.op, .int .u8 r.c.r, .int .u8 r.c.h, .int .u8 r.c.v, .int .i64 r.c.a, .int .i64 r.c.b, .int .i64 r.c.c, .int .i64 r.pc, .int .i64 r.area, .int .u64 r.hand, .int .u64 r.val, r.chain.v, .int .u64 r.word, .int .u64 r.next, .int .i64 r.at_, .int .i64 r.top, r.list.v, .int .i64 r.op, r.said.v, .int .i64 r.n, .bool r.held, .bool r.done, .bool r.point, .int .i64 r.code, .int .i64 r.an, r.asaid.v, .int .i64 e]
theorem use_lit (p : Nat) (s t i h : Int) (r : Rn) (e : Int) : useLit p s t i h r e = preArr (usePre p s t i h) (useCs r e) := by simp [preArr]
theorem use_sub (p : Nat) (s t i h : Int) (r : Rn) (e : Int) (j : Nat) (v : Value) (hv : r.arr[j]? = some v) : (preArr (usePre p s t i h) (useCs r e))[5 + j]? = some v := by
 rw [pre_get (usePre p s t i h) _ (5 + j) j rfl]
 have hj := (Array.getElem?_eq_some_iff.1 hv).1
 rw [Array.getElem?_append_left hj]
 exact hv
theorem builtZ : Tryz.prog.built 43 [] = some ZRun := by kernel_rfl
theorem ret_pc (R : Rn) (x : Int) : R.arr.setIfInBounds 7 (.int .i64 x) = ({ R with pc := x } : Rn).arr := by simp

set_option maxRecDepth 100000 in
set_option maxHeartbeats 4000000 in
theorem refusedAt_any (r R : Rn) (w : World) :
  Calls Tryz.prog 38 #[r.v, R.v] w fun e w' => e = .returned ({ R with pc := r.pc } : Rn).v ∧ Below w.heap.size w w' := by
 go_enter Tryz.func38, Tryz.ntmps38
 go_upto_region 1 with fail
 refine three_rows w _ _ _ _ _ _ ?_
 intro W h1 h2 h3 hb
 have H3 := Lib.hid h3
 have HB := Lib.hid hb
 have q7 : W.cell? ⟨w.heap.size, 7, none⟩ = some (.int .i64 r.pc) := by rw [row_cell h1]; rfl
 have f7 : W.frozen? ⟨w.heap.size + 1, 7, none⟩ = false := row_frozen h2 7
 have c7 : W.cell? ⟨w.heap.size + 1, 7, none⟩ = some (.int .i64 R.pc) := by rw [row_cell h2]; rfl
 have z2 := lt_of_heap h2
 have H2 := Lib.hid h2
 clear h1 h2 h3 hb
 go_upto_region 2 with fail
 clear q7 f7 c7 z2
 refine set_oneR W (w.heap.size + 1) 7 (.int .i64 r.pc) _ _ H2.out ?_
 intro W2 h2 hk
 rw [ret_pc] at h2
 replace H2 := Lib.hid h2
 replace H3 := Lib.hid (hk.row H3.out (by simp))
 replace HB := Lib.hid (show Below w.heap.size w W2 from Keep.under HB.out hk (by have := HB.out.size; omega) (fun j hj => by simp at hj; omega))
 clear h2 hk
 go_wp2_with (first | refine wpList_load_row rfl 43 (.tmp 3) rfl (w.heap.size + 1) rfl 43 ({ R with pc := r.pc } : Rn).arr (0, 0) _ H2.out undRun rfl infoRun ?_ | refine wpList_store_row rfl 43 (.tmp 4) (.tmp 8) rfl (w.heap.size + 1 + 1) ({ R with pc := r.pc } : Rn).arr rfl rfl 43 ZRun H3.out infoRun rfl (Rn.one _) ?_)
 refine bodyPost_ret (results_cell_row (fn := Tryz.f38) rfl _ _ (w.heap.size + 1 + 1) 43 ({ R with pc := r.pc } : Rn).arr (0, 0) _ rfl (setRow_heap W2 _ _ _ _ (0, 0) H3.out) undRun rfl infoRun) rfl ?_
 exact ⟨rfl, below_setRow HB.out (by omega) _⟩


set_option maxRecDepth 100000 in
set_option maxHeartbeats 4000000 in
theorem slNo_any (p b : Nat) (s t i h : Int) (ws : List Int) (r : Rn) (w : World) (hA : Arn w p b ws) (hd : r.done = false) (hp : inB r.pc 5 12 = false) :
  Calls Tryz.prog 14 #[.agg #[.int .i64 s, .int .i64 t, .int .i64 i, .int .i64 h], .pointer (some ⟨p, 0, none⟩), r.v] w fun e w' => e = .returned (.tuple #[.agg ZRun, .int .i64 1]) ∧ Below w.heap.size w w' := by
 have HA := Lib.hid hA
 clear hA
 go_enter Tryz.func14, Tryz.ntmps14
 go_upto_region 1 with fail
 refine three_rows w _ _ _ _ _ _ ?_
 intro W hP hR hZ hB
 have HP := Lib.hid hP
 have HR := Lib.hid hR
 have HZ := Lib.hid hZ
 have HB := Lib.hid hB
 clear hP hR hZ hB
 have q7 : W.cell? ⟨w.heap.size + 1, 7, none⟩ = some (.int .i64 r.pc) := by rw [row_cell HR.out]; rfl
 have q21 : W.cell? ⟨w.heap.size + 1, 21, none⟩ = some (.bool false) := by rw [row_cell HR.out, ← hd]; rfl
 clear hd
 have HWi := Lib.hid hp
 clear hp
 go_wp2_with fail
 refine (within_any r.pc 5 12 _).mono ?_
 rintro e1 w1 ⟨rfl, rfl⟩
 rw [HWi.out]
 go_wp2_with (first | refine wpList_build_to rfl 43 _ rfl ZRun (by simp only [List.map_toArray, List.map_nil]; exact builtZ) ?_ | refine wpList_store_row rfl 43 (.tmp 6) (.tmp 18) rfl (w.heap.size + 1 + 1) ZRun rfl rfl 43 ZRun HZ.out infoRun rfl (by first | exact Rn.one _ | kernel_rfl) ?_)
 refine bodyPost_ret (results_cell_row_tmp (fn := Tryz.f14) rfl _ _ (w.heap.size + 1 + 1) 43 ZRun (0, 0) _ rfl (setRow_heap w1 _ _ _ _ (0, 0) HZ.out) undRun rfl infoRun) rfl ?_
 exact ⟨rfl, below_setRow HB.out (by omega) _⟩

set_option maxRecDepth 100000 in
set_option maxHeartbeats 4000000 in
theorem slStep5_any (p b : Nat) (s t i h : Int) (ws : List Int) (r : Rn) (w : World) (hA : Arn w p b ws) (hd : r.done = false) (hp : r.pc = 5) (R : Rn) (E : Int) (hs : R.said = noS) (hC : ∀ (g : Nat) (w' : World), w.heap.size ≤ g → Below w.heap.size w w' → Use w' g p s t i h r 0 → Calls Tryz.prog 33 #[.pointer (some ⟨g, 0, none⟩), .int .u64 r.hand, .int .i64 6] w' fun e w'' => e = .returned (.tuple #[]) ∧ Use w'' g p s t i h R E ∧ Keep [g] w' w'') :
  Calls Tryz.prog 14 #[.agg #[.int .i64 s, .int .i64 t, .int .i64 i, .int .i64 h], .pointer (some ⟨p, 0, none⟩), r.v] w fun e w' => e = .returned (.tuple #[(if E = 0 then R else toldR { R with pc := r.pc } E 0 noS).v, .int .i64 0]) ∧ Below w.heap.size w w' := by
 have HA := Lib.hid hA
 have Hd := Lib.hid hd
 have Hp := Lib.hid hp
 have Hs := Lib.hid hs
 have HC := Lib.hid hC
 clear hd hp hs hC
 obtain ⟨Z, HZq⟩ : ∃ Z : Rn, Hid ((if E = 0 then R else toldR { R with pc := r.pc } E 0 noS) = Z) := ⟨_, Lib.hid rfl⟩
 rw [HZq.out]
 clear hA
 go_enter Tryz.func14, Tryz.ntmps14
 go_upto_region 1 with fail
 refine three_rows w _ _ _ _ _ _ ?_
 intro W hP hR hZ hB
 have HP := Lib.hid hP
 have HR := Lib.hid hR
 have HZ := Lib.hid hZ
 have HB := Lib.hid hB
 clear hP hR hZ hB
 have q7 : W.cell? ⟨w.heap.size + 1, 7, none⟩ = some (.int .i64 5) := by rw [row_cell HR.out, ← Hp.out]; rfl
 have q21 : W.cell? ⟨w.heap.size + 1, 21, none⟩ = some (.bool false) := by rw [row_cell HR.out, ← Hd.out]; rfl
 have q9 : W.cell? ⟨w.heap.size + 1, 9, none⟩ = some (.int .u64 r.hand) := by rw [row_cell HR.out]; rfl
 have q10 : W.cell? ⟨w.heap.size + 1, 10, none⟩ = some (.int .u64 r.val) := by rw [row_cell HR.out]; rfl
 go_wp2_with fail
 refine (within_any 5 5 12 _).mono ?_
 rintro e1 w1 ⟨rfl, rfl⟩
 rw [show inB 5 5 12 = true from by decide]
 obtain ⟨x0, x1, x2, x3, _⟩ := box4 HP.out
 go_upto_region 4 with (refine wpList_load_row rfl 43 (.tmp 5) rfl (w.heap.size + 1) rfl 43 r.arr (0, 0) _ HR.out undRun rfl infoRun ?_)
 refine one_row w1 _ _ ?_
 intro w7 hC hb
 obtain ⟨g, Hg⟩ : ∃ g, g = w1.heap.size := ⟨_, rfl⟩
 rw [← Hg] at hC ⊢
 have HT : Hid (Use w7 g p s t i h r 0) := Lib.hid (hC.trans (by rw [← use_lit]))
 have Hgz : Hid (w.heap.size + 1 + 1 < g) := Lib.hid (by have := lt_of_heap HZ.out; omega)
 have Hgr : Hid (w.heap.size ≤ g) := Lib.hid (by have := HB.out.size; omega)
 replace HZ := Lib.hid (row_below HZ.out hb)
 replace HR := Lib.hid (row_below HR.out hb)
 have HB7 := Lib.hid (below_only HB.out hb)
 have p7 : w7.cell? ⟨w.heap.size + 1, 7, none⟩ = some (.int .i64 5) := by rw [row_cell HR.out, ← Hp.out]; rfl
 have p9 : w7.cell? ⟨w.heap.size + 1, 9, none⟩ = some (.int .u64 r.hand) := by rw [row_cell HR.out]; rfl
 have p10 : w7.cell? ⟨w.heap.size + 1, 10, none⟩ = some (.int .u64 r.val) := by rw [row_cell HR.out]; rfl
 clear hC hb Hg x0 x1 x2 x3 HP q7 q21 q9 q10 HB
 go_wp2_with fail
 clear p7 p9 p10
 refine (HC.out g w7 Hgr.out HB7.out HT.out).mono ?_
 rintro e' w9 ⟨rfl, hT9, hK9⟩
 have HT9 := Lib.hid hT9
 replace HZ := Lib.hid (hK9.row HZ.out (by have := Hgz.out; simp; omega))
 replace HR := Lib.hid (hK9.row HR.out (by have := Hgz.out; simp; omega))
 have HB9 := Lib.hid (show Below w.heap.size w w9 from Keep.under HB7.out hK9 (by have := HB7.out.size; omega) (fun j hj => by have := Hgr.out; simp at hj; omega))
 have hgl := lt_of_heap hT9
 clear hT9 hK9 HB7 HT HC
 have e31 : w9.cell? ⟨g, 31, none⟩ = some (.int .i64 E) := HT9.out.hi 31 26 _ rfl rfl
 by_cases hE : E = 0
 ·have HZe : Hid (Z = R) := Lib.hid (by rw [← HZq.out, if_pos hE])
  subst hE
  go_wp2_with (first | refine wpList_load_sub rfl 43 (.tmp 72) rfl g 5 rfl 96 _ R.arr (0, 0) _ HT9.out (fun j v hv => use_sub _ _ _ _ _ _ _ j v hv) undRun rfl infoRun ?_ | refine wpList_store_row rfl 43 (.tmp 6) (.tmp 73) rfl (w.heap.size + 1 + 1) R.arr rfl rfl 43 ZRun HZ.out infoRun rfl (by first | exact Rn.one _ | kernel_rfl) ?_)
  refine bodyPost_ret (results_cell_row_tmp (fn := Tryz.f14) rfl _ _ (w.heap.size + 1 + 1) 43 R.arr (0, 0) _ rfl (setRow_heap w9 _ _ _ _ (0, 0) HZ.out) undRun rfl infoRun) rfl ?_
  exact ⟨by rw [HZe.out]; first | done | rfl, below_setRow HB9.out (by omega) _⟩
 ·have hE2 : (E == 0) = false := by simpa using hE
  have hE3 : decide (E = 0) = false := decide_eq_false hE
  have HZe : Hid (Z = toldR { R with pc := r.pc } E 0 noS) := Lib.hid (by rw [← HZq.out, if_neg hE])
  clear hE
  go_upto_region 16 with fail
  clear e31 hE2 hE3
  refine wp_region_held_drew (S := fun W => Use W g p s t i h R E ∧ W.heap[w.heap.size + 1]? = some (.cells r.arr 43 (0, 0))) (by kernel_rfl) (show Use w9.drew g p s t i h R E ∧ w9.drew.heap[w.heap.size + 1]? = _ from ⟨HT9.out, HR.out⟩) ?_
  intro hS
  have hZ0 : w9.drew.heap[w.heap.size + 1 + 1]? = _ := HZ.out
  have hB0 : Below w.heap.size w w9.drew := below_drewN HB9.out 1
  generalize w9.drew = y0 at hS hZ0 hB0 ⊢
  clear HT9 HR HZ HB9
  refine tk (i := 0) (v := .agg r.arr) (some 59) rfl rfl (yieldsIf_row16 (by kernel_rfl) 43 (.tmp 5) rfl (w.heap.size + 1) rfl r.arr (fun W' hW' => hW'.2) undRun rfl infoRun) ?_
  try simp only [Act.put, List.setIfInBounds_toArray, List.set_cons_succ, List.set_cons_zero]
  refine tk (i := 1) (v := ?v1x19) (some 60) rfl rfl (Or.inl ⟨by kernel_rfl, ?h1x19⟩) ?r1x19
  case h1x19 => (intro w hSw; have s1 := hSw.1; obtain ⟨b0, b1, b2, b3, b4, b5, b9, b10, b12, b14, b15, b16, b19, b31, bf12, bf19, bf31, bz⟩ := use_box s1; go_simp; first | done | (with_reducible rfl))
  try simp only [Act.put, List.setIfInBounds_toArray, List.set_cons_succ, List.set_cons_zero]
  refine tk (i := 2) (v := ?v2x20) (some 61) rfl rfl (Or.inl ⟨by kernel_rfl, ?h2x20⟩) ?r2x20
  case h2x20 => (intro w hSw; have s1 := hSw.1; obtain ⟨b0, b1, b2, b3, b4, b5, b9, b10, b12, b14, b15, b16, b19, b31, bf12, bf19, bf31, bz⟩ := use_box s1; go_simp; first | done | (with_reducible rfl))
  try simp only [Act.put, List.setIfInBounds_toArray, List.set_cons_succ, List.set_cons_zero]
  refine tk (i := 3) (v := ?v3x21) (some 62) rfl rfl (Or.inl ⟨by kernel_rfl, ?h3x21⟩) ?r3x21
  case h3x21 => (intro w hSw; have s1 := hSw.1; obtain ⟨b0, b1, b2, b3, b4, b5, b9, b10, b12, b14, b15, b16, b19, b31, bf12, bf19, bf31, bz⟩ := use_box s1; go_simp; first | done | (with_reducible rfl))
  try simp only [Act.put, List.setIfInBounds_toArray, List.set_cons_succ, List.set_cons_zero]
  refine tk (i := 4) (v := .agg R.arr) (some 63) rfl rfl (yieldsIf_load_sub (by kernel_rfl) 43 (.tmp 62) rfl g 5 rfl _ R.arr (fun W' hW' => hW'.1) (fun j v hv => use_sub _ _ _ _ _ _ _ j v hv) undRun rfl infoRun) ?_
  try simp only [Act.put, List.setIfInBounds_toArray, List.set_cons_succ, List.set_cons_zero]
  refine tk (i := 6) (v := ?v6x22) (some 65) rfl rfl (Or.inl ⟨by kernel_rfl, ?h6x22⟩) ?r6x22
  case h6x22 => (intro w hSw; have s1 := hSw.1; obtain ⟨b0, b1, b2, b3, b4, b5, b9, b10, b12, b14, b15, b16, b19, b31, bf12, bf19, bf31, bz⟩ := use_box s1; go_simp; first | done | (with_reducible rfl))
  try simp only [Act.put, List.setIfInBounds_toArray, List.set_cons_succ, List.set_cons_zero]
  refine tk (i := 7) (v := ?v7x23) (some 66) rfl rfl (Or.inl ⟨by kernel_rfl, ?h7x23⟩) ?r7x23
  case h7x23 => (intro w hSw; have s1 := hSw.1; obtain ⟨b0, b1, b2, b3, b4, b5, b9, b10, b12, b14, b15, b16, b19, b31, bf12, bf19, bf31, bz⟩ := use_box s1; go_simp; first | done | (with_reducible rfl))
  try simp only [Act.put, List.setIfInBounds_toArray, List.set_cons_succ, List.set_cons_zero]
  refine tk (i := 8) (v := ?v8x24) (some 67) rfl rfl (Or.inl ⟨by kernel_rfl, ?h8x24⟩) ?r8x24
  case h8x24 => (intro w hSw; have s1 := hSw.1; obtain ⟨b0, b1, b2, b3, b4, b5, b9, b10, b12, b14, b15, b16, b19, b31, bf12, bf19, bf31, bz⟩ := use_box s1; go_simp; first | done | (with_reducible rfl))
  try simp only [Act.put, List.setIfInBounds_toArray, List.set_cons_succ, List.set_cons_zero]
  refine tk (i := 9) (v := ?v9x25) (some 68) rfl rfl (Or.inl ⟨by kernel_rfl, ?h9x25⟩) ?r9x25
  case h9x25 => (intro w hSw; have s1 := hSw.1; obtain ⟨b0, b1, b2, b3, b4, b5, b9, b10, b12, b14, b15, b16, b19, b31, bf12, bf19, bf31, bz⟩ := use_box s1; go_simp; first | done | (with_reducible rfl))
  try simp only [Act.put, List.setIfInBounds_toArray, List.set_cons_succ, List.set_cons_zero]
  refine wpAnyH_ready (rs := [5]) (by kernel_rfl) (by simp) ?_
  refine AllReadyH.cons rfl (fun K hK => ?_) AllReadyH.nil
  go_simp
  refine (refusedAt_any r R _).mono ?_
  rintro e' y1 ⟨rfl, hb⟩
  go_simp
  replace hZ0 := row_below hZ0 hb
  replace hB0 := below_only hB0 hb
  refine hK.out _ _ (⟨row_below hS.1 hb, row_below hS.2 hb⟩) (fun hS => ?_)
  clear hK K
  try simp only [Act.put, List.setIfInBounds_toArray, List.set_cons_succ, List.set_cons_zero]
  clear hb
  refine wpAnyH_ready (rs := [10]) (by kernel_rfl) (by simp) ?_
  refine AllReadyH.cons rfl (fun K hK => ?_) AllReadyH.nil
  go_simp
  refine (tell_any { R with pc := r.pc } E 0 _ Hs.out).mono ?_
  rintro e' y2 ⟨rfl, hb⟩
  go_simp
  replace hZ0 := row_below hZ0 hb
  replace hB0 := below_only hB0 hb
  refine hK.out _ _ (⟨row_below hS.1 hb, row_below hS.2 hb⟩) (fun hS => ?_)
  clear hK K
  try simp only [Act.put, List.setIfInBounds_toArray, List.set_cons_succ, List.set_cons_zero]
  clear hb
  refine wpAnyH_ready (rs := [11]) (by kernel_rfl) (by simp) ?_
  refine AllReadyH.cons rfl (fun K hK => ?_) AllReadyH.nil
  refine step_store_row none rfl rfl 43 (.tmp 6) (.tmp 69) rfl (w.heap.size + 1 + 1) (toldR { R with pc := r.pc } E 0 noS).arr rfl rfl 43 ZRun hZ0 infoRun rfl (Rn.one _) ?_
  refine hK.out _ _ (⟨(setRow_other _ _ _ _ (by have := Hgz.out; omega)).trans hS.1, (setRow_other _ _ _ _ (by omega)).trans hS.2⟩) (fun hS => ?_)
  clear hK K
  try simp only [Act.put, List.setIfInBounds_toArray, List.set_cons_succ, List.set_cons_zero]
  refine tk (i := 12) (v := ?v12x26) (some 7) rfl rfl (Or.inl ⟨by kernel_rfl, ?h12x26⟩) ?r12x26
  case h12x26 => (intro w hSw; have s1 := hSw.1; obtain ⟨b0, b1, b2, b3, b4, b5, b9, b10, b12, b14, b15, b16, b19, b31, bf12, bf19, bf31, bz⟩ := use_box s1; go_simp; first | done | (with_reducible rfl))
  try simp only [Act.put, List.setIfInBounds_toArray, List.set_cons_succ, List.set_cons_zero]
  refine wpAnyH_done (by kernel_rfl) ?_ _
  have HZ := Lib.hid hZ0
  have HB9 := Lib.hid hB0
  clear hS hZ0 hB0
  go_wp2_with fail
  refine bodyPost_ret (results_cell_row_tmp (fn := Tryz.f14) rfl _ _ (w.heap.size + 1 + 1) 43 (toldR { R with pc := r.pc } E 0 noS).arr (0, 0) _ rfl (setRow_heap y2 _ _ _ _ (0, 0) HZ.out) undRun rfl infoRun) rfl ?_
  exact ⟨by rw [HZe.out]; first | done | rfl, below_setRow HB9.out (by omega) _⟩

set_option maxRecDepth 100000 in
set_option maxHeartbeats 4000000 in
theorem slStep6_any (p b : Nat) (s t i h : Int) (ws : List Int) (r : Rn) (w : World) (hA : Arn w p b ws) (hd : r.done = false) (hp : r.pc = 6) (R : Rn) (E : Int) (hs : R.said = noS) (hC : ∀ (g : Nat) (w' : World), w.heap.size ≤ g → Below w.heap.size w w' → Use w' g p s t i h r 0 → Calls Tryz.prog 34 #[.pointer (some ⟨g, 0, none⟩)] w' fun e w'' => e = .returned (.tuple #[]) ∧ Use w'' g p s t i h R E ∧ Keep [g] w' w'') :
  Calls Tryz.prog 14 #[.agg #[.int .i64 s, .int .i64 t, .int .i64 i, .int .i64 h], .pointer (some ⟨p, 0, none⟩), r.v] w fun e w' => e = .returned (.tuple #[(if E = 0 then R else toldR { R with pc := r.pc } E 0 noS).v, .int .i64 0]) ∧ Below w.heap.size w w' := by
 have HA := Lib.hid hA
 have Hd := Lib.hid hd
 have Hp := Lib.hid hp
 have Hs := Lib.hid hs
 have HC := Lib.hid hC
 clear hd hp hs hC
 obtain ⟨Z, HZq⟩ : ∃ Z : Rn, Hid ((if E = 0 then R else toldR { R with pc := r.pc } E 0 noS) = Z) := ⟨_, Lib.hid rfl⟩
 rw [HZq.out]
 clear hA
 go_enter Tryz.func14, Tryz.ntmps14
 go_upto_region 1 with fail
 refine three_rows w _ _ _ _ _ _ ?_
 intro W hP hR hZ hB
 have HP := Lib.hid hP
 have HR := Lib.hid hR
 have HZ := Lib.hid hZ
 have HB := Lib.hid hB
 clear hP hR hZ hB
 have q7 : W.cell? ⟨w.heap.size + 1, 7, none⟩ = some (.int .i64 6) := by rw [row_cell HR.out, ← Hp.out]; rfl
 have q21 : W.cell? ⟨w.heap.size + 1, 21, none⟩ = some (.bool false) := by rw [row_cell HR.out, ← Hd.out]; rfl
 have q9 : W.cell? ⟨w.heap.size + 1, 9, none⟩ = some (.int .u64 r.hand) := by rw [row_cell HR.out]; rfl
 have q10 : W.cell? ⟨w.heap.size + 1, 10, none⟩ = some (.int .u64 r.val) := by rw [row_cell HR.out]; rfl
 go_wp2_with fail
 refine (within_any 6 5 12 _).mono ?_
 rintro e1 w1 ⟨rfl, rfl⟩
 rw [show inB 6 5 12 = true from by decide]
 obtain ⟨x0, x1, x2, x3, _⟩ := box4 HP.out
 go_upto_region 4 with (refine wpList_load_row rfl 43 (.tmp 5) rfl (w.heap.size + 1) rfl 43 r.arr (0, 0) _ HR.out undRun rfl infoRun ?_)
 refine one_row w1 _ _ ?_
 intro w7 hC hb
 obtain ⟨g, Hg⟩ : ∃ g, g = w1.heap.size := ⟨_, rfl⟩
 rw [← Hg] at hC ⊢
 have HT : Hid (Use w7 g p s t i h r 0) := Lib.hid (hC.trans (by rw [← use_lit]))
 have Hgz : Hid (w.heap.size + 1 + 1 < g) := Lib.hid (by have := lt_of_heap HZ.out; omega)
 have Hgr : Hid (w.heap.size ≤ g) := Lib.hid (by have := HB.out.size; omega)
 replace HZ := Lib.hid (row_below HZ.out hb)
 replace HR := Lib.hid (row_below HR.out hb)
 have HB7 := Lib.hid (below_only HB.out hb)
 have p7 : w7.cell? ⟨w.heap.size + 1, 7, none⟩ = some (.int .i64 6) := by rw [row_cell HR.out, ← Hp.out]; rfl
 have p9 : w7.cell? ⟨w.heap.size + 1, 9, none⟩ = some (.int .u64 r.hand) := by rw [row_cell HR.out]; rfl
 have p10 : w7.cell? ⟨w.heap.size + 1, 10, none⟩ = some (.int .u64 r.val) := by rw [row_cell HR.out]; rfl
 clear hC hb Hg x0 x1 x2 x3 HP q7 q21 q9 q10 HB
 go_wp2_with fail
 clear p7 p9 p10
 refine (HC.out g w7 Hgr.out HB7.out HT.out).mono ?_
 rintro e' w9 ⟨rfl, hT9, hK9⟩
 have HT9 := Lib.hid hT9
 replace HZ := Lib.hid (hK9.row HZ.out (by have := Hgz.out; simp; omega))
 replace HR := Lib.hid (hK9.row HR.out (by have := Hgz.out; simp; omega))
 have HB9 := Lib.hid (show Below w.heap.size w w9 from Keep.under HB7.out hK9 (by have := HB7.out.size; omega) (fun j hj => by have := Hgr.out; simp at hj; omega))
 have hgl := lt_of_heap hT9
 clear hT9 hK9 HB7 HT HC
 have e31 : w9.cell? ⟨g, 31, none⟩ = some (.int .i64 E) := HT9.out.hi 31 26 _ rfl rfl
 by_cases hE : E = 0
 ·have HZe : Hid (Z = R) := Lib.hid (by rw [← HZq.out, if_pos hE])
  subst hE
  go_wp2_with (first | refine wpList_load_sub rfl 43 (.tmp 72) rfl g 5 rfl 96 _ R.arr (0, 0) _ HT9.out (fun j v hv => use_sub _ _ _ _ _ _ _ j v hv) undRun rfl infoRun ?_ | refine wpList_store_row rfl 43 (.tmp 6) (.tmp 73) rfl (w.heap.size + 1 + 1) R.arr rfl rfl 43 ZRun HZ.out infoRun rfl (by first | exact Rn.one _ | kernel_rfl) ?_)
  refine bodyPost_ret (results_cell_row_tmp (fn := Tryz.f14) rfl _ _ (w.heap.size + 1 + 1) 43 R.arr (0, 0) _ rfl (setRow_heap w9 _ _ _ _ (0, 0) HZ.out) undRun rfl infoRun) rfl ?_
  exact ⟨by rw [HZe.out]; first | done | rfl, below_setRow HB9.out (by omega) _⟩
 ·have hE2 : (E == 0) = false := by simpa using hE
  have hE3 : decide (E = 0) = false := decide_eq_false hE
  have HZe : Hid (Z = toldR { R with pc := r.pc } E 0 noS) := Lib.hid (by rw [← HZq.out, if_neg hE])
  clear hE
  go_upto_region 16 with fail
  clear e31 hE2 hE3
  refine wp_region_held_drew (S := fun W => Use W g p s t i h R E ∧ W.heap[w.heap.size + 1]? = some (.cells r.arr 43 (0, 0))) (by kernel_rfl) (show Use w9.drew g p s t i h R E ∧ w9.drew.heap[w.heap.size + 1]? = _ from ⟨HT9.out, HR.out⟩) ?_
  intro hS
  have hZ0 : w9.drew.heap[w.heap.size + 1 + 1]? = _ := HZ.out
  have hB0 : Below w.heap.size w w9.drew := below_drewN HB9.out 1
  generalize w9.drew = y0 at hS hZ0 hB0 ⊢
  clear HT9 HR HZ HB9
  refine tk (i := 0) (v := .agg r.arr) (some 59) rfl rfl (yieldsIf_row16 (by kernel_rfl) 43 (.tmp 5) rfl (w.heap.size + 1) rfl r.arr (fun W' hW' => hW'.2) undRun rfl infoRun) ?_
  try simp only [Act.put, List.setIfInBounds_toArray, List.set_cons_succ, List.set_cons_zero]
  refine tk (i := 1) (v := ?v1x27) (some 60) rfl rfl (Or.inl ⟨by kernel_rfl, ?h1x27⟩) ?r1x27
  case h1x27 => (intro w hSw; have s1 := hSw.1; obtain ⟨b0, b1, b2, b3, b4, b5, b9, b10, b12, b14, b15, b16, b19, b31, bf12, bf19, bf31, bz⟩ := use_box s1; go_simp; first | done | (with_reducible rfl))
  try simp only [Act.put, List.setIfInBounds_toArray, List.set_cons_succ, List.set_cons_zero]
  refine tk (i := 2) (v := ?v2x28) (some 61) rfl rfl (Or.inl ⟨by kernel_rfl, ?h2x28⟩) ?r2x28
  case h2x28 => (intro w hSw; have s1 := hSw.1; obtain ⟨b0, b1, b2, b3, b4, b5, b9, b10, b12, b14, b15, b16, b19, b31, bf12, bf19, bf31, bz⟩ := use_box s1; go_simp; first | done | (with_reducible rfl))
  try simp only [Act.put, List.setIfInBounds_toArray, List.set_cons_succ, List.set_cons_zero]
  refine tk (i := 3) (v := ?v3x29) (some 62) rfl rfl (Or.inl ⟨by kernel_rfl, ?h3x29⟩) ?r3x29
  case h3x29 => (intro w hSw; have s1 := hSw.1; obtain ⟨b0, b1, b2, b3, b4, b5, b9, b10, b12, b14, b15, b16, b19, b31, bf12, bf19, bf31, bz⟩ := use_box s1; go_simp; first | done | (with_reducible rfl))
  try simp only [Act.put, List.setIfInBounds_toArray, List.set_cons_succ, List.set_cons_zero]
  refine tk (i := 4) (v := .agg R.arr) (some 63) rfl rfl (yieldsIf_load_sub (by kernel_rfl) 43 (.tmp 62) rfl g 5 rfl _ R.arr (fun W' hW' => hW'.1) (fun j v hv => use_sub _ _ _ _ _ _ _ j v hv) undRun rfl infoRun) ?_
  try simp only [Act.put, List.setIfInBounds_toArray, List.set_cons_succ, List.set_cons_zero]
  refine tk (i := 6) (v := ?v6x30) (some 65) rfl rfl (Or.inl ⟨by kernel_rfl, ?h6x30⟩) ?r6x30
  case h6x30 => (intro w hSw; have s1 := hSw.1; obtain ⟨b0, b1, b2, b3, b4, b5, b9, b10, b12, b14, b15, b16, b19, b31, bf12, bf19, bf31, bz⟩ := use_box s1; go_simp; first | done | (with_reducible rfl))
  try simp only [Act.put, List.setIfInBounds_toArray, List.set_cons_succ, List.set_cons_zero]
  refine tk (i := 7) (v := ?v7x31) (some 66) rfl rfl (Or.inl ⟨by kernel_rfl, ?h7x31⟩) ?r7x31
  case h7x31 => (intro w hSw; have s1 := hSw.1; obtain ⟨b0, b1, b2, b3, b4, b5, b9, b10, b12, b14, b15, b16, b19, b31, bf12, bf19, bf31, bz⟩ := use_box s1; go_simp; first | done | (with_reducible rfl))
  try simp only [Act.put, List.setIfInBounds_toArray, List.set_cons_succ, List.set_cons_zero]
  refine tk (i := 8) (v := ?v8x32) (some 67) rfl rfl (Or.inl ⟨by kernel_rfl, ?h8x32⟩) ?r8x32
  case h8x32 => (intro w hSw; have s1 := hSw.1; obtain ⟨b0, b1, b2, b3, b4, b5, b9, b10, b12, b14, b15, b16, b19, b31, bf12, bf19, bf31, bz⟩ := use_box s1; go_simp; first | done | (with_reducible rfl))
  try simp only [Act.put, List.setIfInBounds_toArray, List.set_cons_succ, List.set_cons_zero]
  refine tk (i := 9) (v := ?v9x33) (some 68) rfl rfl (Or.inl ⟨by kernel_rfl, ?h9x33⟩) ?r9x33
  case h9x33 => (intro w hSw; have s1 := hSw.1; obtain ⟨b0, b1, b2, b3, b4, b5, b9, b10, b12, b14, b15, b16, b19, b31, bf12, bf19, bf31, bz⟩ := use_box s1; go_simp; first | done | (with_reducible rfl))
  try simp only [Act.put, List.setIfInBounds_toArray, List.set_cons_succ, List.set_cons_zero]
  refine wpAnyH_ready (rs := [5]) (by kernel_rfl) (by simp) ?_
  refine AllReadyH.cons rfl (fun K hK => ?_) AllReadyH.nil
  go_simp
  refine (refusedAt_any r R _).mono ?_
  rintro e' y1 ⟨rfl, hb⟩
  go_simp
  replace hZ0 := row_below hZ0 hb
  replace hB0 := below_only hB0 hb
  refine hK.out _ _ (⟨row_below hS.1 hb, row_below hS.2 hb⟩) (fun hS => ?_)
  clear hK K
  try simp only [Act.put, List.setIfInBounds_toArray, List.set_cons_succ, List.set_cons_zero]
  clear hb
  refine wpAnyH_ready (rs := [10]) (by kernel_rfl) (by simp) ?_
  refine AllReadyH.cons rfl (fun K hK => ?_) AllReadyH.nil
  go_simp
  refine (tell_any { R with pc := r.pc } E 0 _ Hs.out).mono ?_
  rintro e' y2 ⟨rfl, hb⟩
  go_simp
  replace hZ0 := row_below hZ0 hb
  replace hB0 := below_only hB0 hb
  refine hK.out _ _ (⟨row_below hS.1 hb, row_below hS.2 hb⟩) (fun hS => ?_)
  clear hK K
  try simp only [Act.put, List.setIfInBounds_toArray, List.set_cons_succ, List.set_cons_zero]
  clear hb
  refine wpAnyH_ready (rs := [11]) (by kernel_rfl) (by simp) ?_
  refine AllReadyH.cons rfl (fun K hK => ?_) AllReadyH.nil
  refine step_store_row none rfl rfl 43 (.tmp 6) (.tmp 69) rfl (w.heap.size + 1 + 1) (toldR { R with pc := r.pc } E 0 noS).arr rfl rfl 43 ZRun hZ0 infoRun rfl (Rn.one _) ?_
  refine hK.out _ _ (⟨(setRow_other _ _ _ _ (by have := Hgz.out; omega)).trans hS.1, (setRow_other _ _ _ _ (by omega)).trans hS.2⟩) (fun hS => ?_)
  clear hK K
  try simp only [Act.put, List.setIfInBounds_toArray, List.set_cons_succ, List.set_cons_zero]
  refine tk (i := 12) (v := ?v12x34) (some 7) rfl rfl (Or.inl ⟨by kernel_rfl, ?h12x34⟩) ?r12x34
  case h12x34 => (intro w hSw; have s1 := hSw.1; obtain ⟨b0, b1, b2, b3, b4, b5, b9, b10, b12, b14, b15, b16, b19, b31, bf12, bf19, bf31, bz⟩ := use_box s1; go_simp; first | done | (with_reducible rfl))
  try simp only [Act.put, List.setIfInBounds_toArray, List.set_cons_succ, List.set_cons_zero]
  refine wpAnyH_done (by kernel_rfl) ?_ _
  have HZ := Lib.hid hZ0
  have HB9 := Lib.hid hB0
  clear hS hZ0 hB0
  go_wp2_with fail
  refine bodyPost_ret (results_cell_row_tmp (fn := Tryz.f14) rfl _ _ (w.heap.size + 1 + 1) 43 (toldR { R with pc := r.pc } E 0 noS).arr (0, 0) _ rfl (setRow_heap y2 _ _ _ _ (0, 0) HZ.out) undRun rfl infoRun) rfl ?_
  exact ⟨by rw [HZe.out]; first | done | rfl, below_setRow HB9.out (by omega) _⟩

set_option maxRecDepth 100000 in
set_option maxHeartbeats 4000000 in
theorem slStep7_any (p b : Nat) (s t i h : Int) (ws : List Int) (r : Rn) (w : World) (hA : Arn w p b ws) (hd : r.done = false) (hp : r.pc = 7) (R : Rn) (E : Int) (hs : R.said = noS) (hC : ∀ (g : Nat) (w' : World), w.heap.size ≤ g → Below w.heap.size w w' → Use w' g p s t i h r 0 → Calls Tryz.prog 33 #[.pointer (some ⟨g, 0, none⟩), .int .u64 r.val, .int .i64 8] w' fun e w'' => e = .returned (.tuple #[]) ∧ Use w'' g p s t i h R E ∧ Keep [g] w' w'') :
  Calls Tryz.prog 14 #[.agg #[.int .i64 s, .int .i64 t, .int .i64 i, .int .i64 h], .pointer (some ⟨p, 0, none⟩), r.v] w fun e w' => e = .returned (.tuple #[(if E = 0 then R else toldR { R with pc := r.pc } E 0 noS).v, .int .i64 0]) ∧ Below w.heap.size w w' := by
 have HA := Lib.hid hA
 have Hd := Lib.hid hd
 have Hp := Lib.hid hp
 have Hs := Lib.hid hs
 have HC := Lib.hid hC
 clear hd hp hs hC
 obtain ⟨Z, HZq⟩ : ∃ Z : Rn, Hid ((if E = 0 then R else toldR { R with pc := r.pc } E 0 noS) = Z) := ⟨_, Lib.hid rfl⟩
 rw [HZq.out]
 clear hA
 go_enter Tryz.func14, Tryz.ntmps14
 go_upto_region 1 with fail
 refine three_rows w _ _ _ _ _ _ ?_
 intro W hP hR hZ hB
 have HP := Lib.hid hP
 have HR := Lib.hid hR
 have HZ := Lib.hid hZ
 have HB := Lib.hid hB
 clear hP hR hZ hB
 have q7 : W.cell? ⟨w.heap.size + 1, 7, none⟩ = some (.int .i64 7) := by rw [row_cell HR.out, ← Hp.out]; rfl
 have q21 : W.cell? ⟨w.heap.size + 1, 21, none⟩ = some (.bool false) := by rw [row_cell HR.out, ← Hd.out]; rfl
 have q9 : W.cell? ⟨w.heap.size + 1, 9, none⟩ = some (.int .u64 r.hand) := by rw [row_cell HR.out]; rfl
 have q10 : W.cell? ⟨w.heap.size + 1, 10, none⟩ = some (.int .u64 r.val) := by rw [row_cell HR.out]; rfl
 go_wp2_with fail
 refine (within_any 7 5 12 _).mono ?_
 rintro e1 w1 ⟨rfl, rfl⟩
 rw [show inB 7 5 12 = true from by decide]
 obtain ⟨x0, x1, x2, x3, _⟩ := box4 HP.out
 go_upto_region 4 with (refine wpList_load_row rfl 43 (.tmp 5) rfl (w.heap.size + 1) rfl 43 r.arr (0, 0) _ HR.out undRun rfl infoRun ?_)
 refine one_row w1 _ _ ?_
 intro w7 hC hb
 obtain ⟨g, Hg⟩ : ∃ g, g = w1.heap.size := ⟨_, rfl⟩
 rw [← Hg] at hC ⊢
 have HT : Hid (Use w7 g p s t i h r 0) := Lib.hid (hC.trans (by rw [← use_lit]))
 have Hgz : Hid (w.heap.size + 1 + 1 < g) := Lib.hid (by have := lt_of_heap HZ.out; omega)
 have Hgr : Hid (w.heap.size ≤ g) := Lib.hid (by have := HB.out.size; omega)
 replace HZ := Lib.hid (row_below HZ.out hb)
 replace HR := Lib.hid (row_below HR.out hb)
 have HB7 := Lib.hid (below_only HB.out hb)
 have p7 : w7.cell? ⟨w.heap.size + 1, 7, none⟩ = some (.int .i64 7) := by rw [row_cell HR.out, ← Hp.out]; rfl
 have p9 : w7.cell? ⟨w.heap.size + 1, 9, none⟩ = some (.int .u64 r.hand) := by rw [row_cell HR.out]; rfl
 have p10 : w7.cell? ⟨w.heap.size + 1, 10, none⟩ = some (.int .u64 r.val) := by rw [row_cell HR.out]; rfl
 clear hC hb Hg x0 x1 x2 x3 HP q7 q21 q9 q10 HB
 go_wp2_with fail
 clear p7 p9 p10
 refine (HC.out g w7 Hgr.out HB7.out HT.out).mono ?_
 rintro e' w9 ⟨rfl, hT9, hK9⟩
 have HT9 := Lib.hid hT9
 replace HZ := Lib.hid (hK9.row HZ.out (by have := Hgz.out; simp; omega))
 replace HR := Lib.hid (hK9.row HR.out (by have := Hgz.out; simp; omega))
 have HB9 := Lib.hid (show Below w.heap.size w w9 from Keep.under HB7.out hK9 (by have := HB7.out.size; omega) (fun j hj => by have := Hgr.out; simp at hj; omega))
 have hgl := lt_of_heap hT9
 clear hT9 hK9 HB7 HT HC
 have e31 : w9.cell? ⟨g, 31, none⟩ = some (.int .i64 E) := HT9.out.hi 31 26 _ rfl rfl
 by_cases hE : E = 0
 ·have HZe : Hid (Z = R) := Lib.hid (by rw [← HZq.out, if_pos hE])
  subst hE
  go_wp2_with (first | refine wpList_load_sub rfl 43 (.tmp 72) rfl g 5 rfl 96 _ R.arr (0, 0) _ HT9.out (fun j v hv => use_sub _ _ _ _ _ _ _ j v hv) undRun rfl infoRun ?_ | refine wpList_store_row rfl 43 (.tmp 6) (.tmp 73) rfl (w.heap.size + 1 + 1) R.arr rfl rfl 43 ZRun HZ.out infoRun rfl (by first | exact Rn.one _ | kernel_rfl) ?_)
  refine bodyPost_ret (results_cell_row_tmp (fn := Tryz.f14) rfl _ _ (w.heap.size + 1 + 1) 43 R.arr (0, 0) _ rfl (setRow_heap w9 _ _ _ _ (0, 0) HZ.out) undRun rfl infoRun) rfl ?_
  exact ⟨by rw [HZe.out]; first | done | rfl, below_setRow HB9.out (by omega) _⟩
 ·have hE2 : (E == 0) = false := by simpa using hE
  have hE3 : decide (E = 0) = false := decide_eq_false hE
  have HZe : Hid (Z = toldR { R with pc := r.pc } E 0 noS) := Lib.hid (by rw [← HZq.out, if_neg hE])
  clear hE
  go_upto_region 16 with fail
  clear e31 hE2 hE3
  refine wp_region_held_drew (S := fun W => Use W g p s t i h R E ∧ W.heap[w.heap.size + 1]? = some (.cells r.arr 43 (0, 0))) (by kernel_rfl) (show Use w9.drew g p s t i h R E ∧ w9.drew.heap[w.heap.size + 1]? = _ from ⟨HT9.out, HR.out⟩) ?_
  intro hS
  have hZ0 : w9.drew.heap[w.heap.size + 1 + 1]? = _ := HZ.out
  have hB0 : Below w.heap.size w w9.drew := below_drewN HB9.out 1
  generalize w9.drew = y0 at hS hZ0 hB0 ⊢
  clear HT9 HR HZ HB9
  refine tk (i := 0) (v := .agg r.arr) (some 59) rfl rfl (yieldsIf_row16 (by kernel_rfl) 43 (.tmp 5) rfl (w.heap.size + 1) rfl r.arr (fun W' hW' => hW'.2) undRun rfl infoRun) ?_
  try simp only [Act.put, List.setIfInBounds_toArray, List.set_cons_succ, List.set_cons_zero]
  refine tk (i := 1) (v := ?v1x35) (some 60) rfl rfl (Or.inl ⟨by kernel_rfl, ?h1x35⟩) ?r1x35
  case h1x35 => (intro w hSw; have s1 := hSw.1; obtain ⟨b0, b1, b2, b3, b4, b5, b9, b10, b12, b14, b15, b16, b19, b31, bf12, bf19, bf31, bz⟩ := use_box s1; go_simp; first | done | (with_reducible rfl))
  try simp only [Act.put, List.setIfInBounds_toArray, List.set_cons_succ, List.set_cons_zero]
  refine tk (i := 2) (v := ?v2x36) (some 61) rfl rfl (Or.inl ⟨by kernel_rfl, ?h2x36⟩) ?r2x36
  case h2x36 => (intro w hSw; have s1 := hSw.1; obtain ⟨b0, b1, b2, b3, b4, b5, b9, b10, b12, b14, b15, b16, b19, b31, bf12, bf19, bf31, bz⟩ := use_box s1; go_simp; first | done | (with_reducible rfl))
  try simp only [Act.put, List.setIfInBounds_toArray, List.set_cons_succ, List.set_cons_zero]
  refine tk (i := 3) (v := ?v3x37) (some 62) rfl rfl (Or.inl ⟨by kernel_rfl, ?h3x37⟩) ?r3x37
  case h3x37 => (intro w hSw; have s1 := hSw.1; obtain ⟨b0, b1, b2, b3, b4, b5, b9, b10, b12, b14, b15, b16, b19, b31, bf12, bf19, bf31, bz⟩ := use_box s1; go_simp; first | done | (with_reducible rfl))
  try simp only [Act.put, List.setIfInBounds_toArray, List.set_cons_succ, List.set_cons_zero]
  refine tk (i := 4) (v := .agg R.arr) (some 63) rfl rfl (yieldsIf_load_sub (by kernel_rfl) 43 (.tmp 62) rfl g 5 rfl _ R.arr (fun W' hW' => hW'.1) (fun j v hv => use_sub _ _ _ _ _ _ _ j v hv) undRun rfl infoRun) ?_
  try simp only [Act.put, List.setIfInBounds_toArray, List.set_cons_succ, List.set_cons_zero]
  refine tk (i := 6) (v := ?v6x38) (some 65) rfl rfl (Or.inl ⟨by kernel_rfl, ?h6x38⟩) ?r6x38
  case h6x38 => (intro w hSw; have s1 := hSw.1; obtain ⟨b0, b1, b2, b3, b4, b5, b9, b10, b12, b14, b15, b16, b19, b31, bf12, bf19, bf31, bz⟩ := use_box s1; go_simp; first | done | (with_reducible rfl))
  try simp only [Act.put, List.setIfInBounds_toArray, List.set_cons_succ, List.set_cons_zero]
  refine tk (i := 7) (v := ?v7x39) (some 66) rfl rfl (Or.inl ⟨by kernel_rfl, ?h7x39⟩) ?r7x39
  case h7x39 => (intro w hSw; have s1 := hSw.1; obtain ⟨b0, b1, b2, b3, b4, b5, b9, b10, b12, b14, b15, b16, b19, b31, bf12, bf19, bf31, bz⟩ := use_box s1; go_simp; first | done | (with_reducible rfl))
  try simp only [Act.put, List.setIfInBounds_toArray, List.set_cons_succ, List.set_cons_zero]
  refine tk (i := 8) (v := ?v8x40) (some 67) rfl rfl (Or.inl ⟨by kernel_rfl, ?h8x40⟩) ?r8x40
  case h8x40 => (intro w hSw; have s1 := hSw.1; obtain ⟨b0, b1, b2, b3, b4, b5, b9, b10, b12, b14, b15, b16, b19, b31, bf12, bf19, bf31, bz⟩ := use_box s1; go_simp; first | done | (with_reducible rfl))
  try simp only [Act.put, List.setIfInBounds_toArray, List.set_cons_succ, List.set_cons_zero]
  refine tk (i := 9) (v := ?v9x41) (some 68) rfl rfl (Or.inl ⟨by kernel_rfl, ?h9x41⟩) ?r9x41
  case h9x41 => (intro w hSw; have s1 := hSw.1; obtain ⟨b0, b1, b2, b3, b4, b5, b9, b10, b12, b14, b15, b16, b19, b31, bf12, bf19, bf31, bz⟩ := use_box s1; go_simp; first | done | (with_reducible rfl))
  try simp only [Act.put, List.setIfInBounds_toArray, List.set_cons_succ, List.set_cons_zero]
  refine wpAnyH_ready (rs := [5]) (by kernel_rfl) (by simp) ?_
  refine AllReadyH.cons rfl (fun K hK => ?_) AllReadyH.nil
  go_simp
  refine (refusedAt_any r R _).mono ?_
  rintro e' y1 ⟨rfl, hb⟩
  go_simp
  replace hZ0 := row_below hZ0 hb
  replace hB0 := below_only hB0 hb
  refine hK.out _ _ (⟨row_below hS.1 hb, row_below hS.2 hb⟩) (fun hS => ?_)
  clear hK K
  try simp only [Act.put, List.setIfInBounds_toArray, List.set_cons_succ, List.set_cons_zero]
  clear hb
  refine wpAnyH_ready (rs := [10]) (by kernel_rfl) (by simp) ?_
  refine AllReadyH.cons rfl (fun K hK => ?_) AllReadyH.nil
  go_simp
  refine (tell_any { R with pc := r.pc } E 0 _ Hs.out).mono ?_
  rintro e' y2 ⟨rfl, hb⟩
  go_simp
  replace hZ0 := row_below hZ0 hb
  replace hB0 := below_only hB0 hb
  refine hK.out _ _ (⟨row_below hS.1 hb, row_below hS.2 hb⟩) (fun hS => ?_)
  clear hK K
  try simp only [Act.put, List.setIfInBounds_toArray, List.set_cons_succ, List.set_cons_zero]
  clear hb
  refine wpAnyH_ready (rs := [11]) (by kernel_rfl) (by simp) ?_
  refine AllReadyH.cons rfl (fun K hK => ?_) AllReadyH.nil
  refine step_store_row none rfl rfl 43 (.tmp 6) (.tmp 69) rfl (w.heap.size + 1 + 1) (toldR { R with pc := r.pc } E 0 noS).arr rfl rfl 43 ZRun hZ0 infoRun rfl (Rn.one _) ?_
  refine hK.out _ _ (⟨(setRow_other _ _ _ _ (by have := Hgz.out; omega)).trans hS.1, (setRow_other _ _ _ _ (by omega)).trans hS.2⟩) (fun hS => ?_)
  clear hK K
  try simp only [Act.put, List.setIfInBounds_toArray, List.set_cons_succ, List.set_cons_zero]
  refine tk (i := 12) (v := ?v12x42) (some 7) rfl rfl (Or.inl ⟨by kernel_rfl, ?h12x42⟩) ?r12x42
  case h12x42 => (intro w hSw; have s1 := hSw.1; obtain ⟨b0, b1, b2, b3, b4, b5, b9, b10, b12, b14, b15, b16, b19, b31, bf12, bf19, bf31, bz⟩ := use_box s1; go_simp; first | done | (with_reducible rfl))
  try simp only [Act.put, List.setIfInBounds_toArray, List.set_cons_succ, List.set_cons_zero]
  refine wpAnyH_done (by kernel_rfl) ?_ _
  have HZ := Lib.hid hZ0
  have HB9 := Lib.hid hB0
  clear hS hZ0 hB0
  go_wp2_with fail
  refine bodyPost_ret (results_cell_row_tmp (fn := Tryz.f14) rfl _ _ (w.heap.size + 1 + 1) 43 (toldR { R with pc := r.pc } E 0 noS).arr (0, 0) _ rfl (setRow_heap y2 _ _ _ _ (0, 0) HZ.out) undRun rfl infoRun) rfl ?_
  exact ⟨by rw [HZe.out]; first | done | rfl, below_setRow HB9.out (by omega) _⟩

set_option maxRecDepth 100000 in
set_option maxHeartbeats 4000000 in
theorem slStep8_any (p b : Nat) (s t i h : Int) (ws : List Int) (r : Rn) (w : World) (hA : Arn w p b ws) (hd : r.done = false) (hp : r.pc = 8) (R : Rn) (E : Int) (hs : R.said = noS) (hC : ∀ (g : Nat) (w' : World), w.heap.size ≤ g → Below w.heap.size w w' → Use w' g p s t i h r 0 → Calls Tryz.prog 35 #[.pointer (some ⟨g, 0, none⟩)] w' fun e w'' => e = .returned (.tuple #[]) ∧ Use w'' g p s t i h R E ∧ Keep [g] w' w'') :
  Calls Tryz.prog 14 #[.agg #[.int .i64 s, .int .i64 t, .int .i64 i, .int .i64 h], .pointer (some ⟨p, 0, none⟩), r.v] w fun e w' => e = .returned (.tuple #[(if E = 0 then R else toldR { R with pc := r.pc } E 0 noS).v, .int .i64 0]) ∧ Below w.heap.size w w' := by
 have HA := Lib.hid hA
 have Hd := Lib.hid hd
 have Hp := Lib.hid hp
 have Hs := Lib.hid hs
 have HC := Lib.hid hC
 clear hd hp hs hC
 obtain ⟨Z, HZq⟩ : ∃ Z : Rn, Hid ((if E = 0 then R else toldR { R with pc := r.pc } E 0 noS) = Z) := ⟨_, Lib.hid rfl⟩
 rw [HZq.out]
 clear hA
 go_enter Tryz.func14, Tryz.ntmps14
 go_upto_region 1 with fail
 refine three_rows w _ _ _ _ _ _ ?_
 intro W hP hR hZ hB
 have HP := Lib.hid hP
 have HR := Lib.hid hR
 have HZ := Lib.hid hZ
 have HB := Lib.hid hB
 clear hP hR hZ hB
 have q7 : W.cell? ⟨w.heap.size + 1, 7, none⟩ = some (.int .i64 8) := by rw [row_cell HR.out, ← Hp.out]; rfl
 have q21 : W.cell? ⟨w.heap.size + 1, 21, none⟩ = some (.bool false) := by rw [row_cell HR.out, ← Hd.out]; rfl
 have q9 : W.cell? ⟨w.heap.size + 1, 9, none⟩ = some (.int .u64 r.hand) := by rw [row_cell HR.out]; rfl
 have q10 : W.cell? ⟨w.heap.size + 1, 10, none⟩ = some (.int .u64 r.val) := by rw [row_cell HR.out]; rfl
 go_wp2_with fail
 refine (within_any 8 5 12 _).mono ?_
 rintro e1 w1 ⟨rfl, rfl⟩
 rw [show inB 8 5 12 = true from by decide]
 obtain ⟨x0, x1, x2, x3, _⟩ := box4 HP.out
 go_upto_region 4 with (refine wpList_load_row rfl 43 (.tmp 5) rfl (w.heap.size + 1) rfl 43 r.arr (0, 0) _ HR.out undRun rfl infoRun ?_)
 refine one_row w1 _ _ ?_
 intro w7 hC hb
 obtain ⟨g, Hg⟩ : ∃ g, g = w1.heap.size := ⟨_, rfl⟩
 rw [← Hg] at hC ⊢
 have HT : Hid (Use w7 g p s t i h r 0) := Lib.hid (hC.trans (by rw [← use_lit]))
 have Hgz : Hid (w.heap.size + 1 + 1 < g) := Lib.hid (by have := lt_of_heap HZ.out; omega)
 have Hgr : Hid (w.heap.size ≤ g) := Lib.hid (by have := HB.out.size; omega)
 replace HZ := Lib.hid (row_below HZ.out hb)
 replace HR := Lib.hid (row_below HR.out hb)
 have HB7 := Lib.hid (below_only HB.out hb)
 have p7 : w7.cell? ⟨w.heap.size + 1, 7, none⟩ = some (.int .i64 8) := by rw [row_cell HR.out, ← Hp.out]; rfl
 have p9 : w7.cell? ⟨w.heap.size + 1, 9, none⟩ = some (.int .u64 r.hand) := by rw [row_cell HR.out]; rfl
 have p10 : w7.cell? ⟨w.heap.size + 1, 10, none⟩ = some (.int .u64 r.val) := by rw [row_cell HR.out]; rfl
 clear hC hb Hg x0 x1 x2 x3 HP q7 q21 q9 q10 HB
 go_wp2_with fail
 clear p7 p9 p10
 refine (HC.out g w7 Hgr.out HB7.out HT.out).mono ?_
 rintro e' w9 ⟨rfl, hT9, hK9⟩
 have HT9 := Lib.hid hT9
 replace HZ := Lib.hid (hK9.row HZ.out (by have := Hgz.out; simp; omega))
 replace HR := Lib.hid (hK9.row HR.out (by have := Hgz.out; simp; omega))
 have HB9 := Lib.hid (show Below w.heap.size w w9 from Keep.under HB7.out hK9 (by have := HB7.out.size; omega) (fun j hj => by have := Hgr.out; simp at hj; omega))
 have hgl := lt_of_heap hT9
 clear hT9 hK9 HB7 HT HC
 have e31 : w9.cell? ⟨g, 31, none⟩ = some (.int .i64 E) := HT9.out.hi 31 26 _ rfl rfl
 by_cases hE : E = 0
 ·have HZe : Hid (Z = R) := Lib.hid (by rw [← HZq.out, if_pos hE])
  subst hE
  go_wp2_with (first | refine wpList_load_sub rfl 43 (.tmp 72) rfl g 5 rfl 96 _ R.arr (0, 0) _ HT9.out (fun j v hv => use_sub _ _ _ _ _ _ _ j v hv) undRun rfl infoRun ?_ | refine wpList_store_row rfl 43 (.tmp 6) (.tmp 73) rfl (w.heap.size + 1 + 1) R.arr rfl rfl 43 ZRun HZ.out infoRun rfl (by first | exact Rn.one _ | kernel_rfl) ?_)
  refine bodyPost_ret (results_cell_row_tmp (fn := Tryz.f14) rfl _ _ (w.heap.size + 1 + 1) 43 R.arr (0, 0) _ rfl (setRow_heap w9 _ _ _ _ (0, 0) HZ.out) undRun rfl infoRun) rfl ?_
  exact ⟨by rw [HZe.out]; first | done | rfl, below_setRow HB9.out (by omega) _⟩
 ·have hE2 : (E == 0) = false := by simpa using hE
  have hE3 : decide (E = 0) = false := decide_eq_false hE
  have HZe : Hid (Z = toldR { R with pc := r.pc } E 0 noS) := Lib.hid (by rw [← HZq.out, if_neg hE])
  clear hE
  go_upto_region 16 with fail
  clear e31 hE2 hE3
  refine wp_region_held_drew (S := fun W => Use W g p s t i h R E ∧ W.heap[w.heap.size + 1]? = some (.cells r.arr 43 (0, 0))) (by kernel_rfl) (show Use w9.drew g p s t i h R E ∧ w9.drew.heap[w.heap.size + 1]? = _ from ⟨HT9.out, HR.out⟩) ?_
  intro hS
  have hZ0 : w9.drew.heap[w.heap.size + 1 + 1]? = _ := HZ.out
  have hB0 : Below w.heap.size w w9.drew := below_drewN HB9.out 1
  generalize w9.drew = y0 at hS hZ0 hB0 ⊢
  clear HT9 HR HZ HB9
  refine tk (i := 0) (v := .agg r.arr) (some 59) rfl rfl (yieldsIf_row16 (by kernel_rfl) 43 (.tmp 5) rfl (w.heap.size + 1) rfl r.arr (fun W' hW' => hW'.2) undRun rfl infoRun) ?_
  try simp only [Act.put, List.setIfInBounds_toArray, List.set_cons_succ, List.set_cons_zero]
  refine tk (i := 1) (v := ?v1x43) (some 60) rfl rfl (Or.inl ⟨by kernel_rfl, ?h1x43⟩) ?r1x43
  case h1x43 => (intro w hSw; have s1 := hSw.1; obtain ⟨b0, b1, b2, b3, b4, b5, b9, b10, b12, b14, b15, b16, b19, b31, bf12, bf19, bf31, bz⟩ := use_box s1; go_simp; first | done | (with_reducible rfl))
  try simp only [Act.put, List.setIfInBounds_toArray, List.set_cons_succ, List.set_cons_zero]
  refine tk (i := 2) (v := ?v2x44) (some 61) rfl rfl (Or.inl ⟨by kernel_rfl, ?h2x44⟩) ?r2x44
  case h2x44 => (intro w hSw; have s1 := hSw.1; obtain ⟨b0, b1, b2, b3, b4, b5, b9, b10, b12, b14, b15, b16, b19, b31, bf12, bf19, bf31, bz⟩ := use_box s1; go_simp; first | done | (with_reducible rfl))
  try simp only [Act.put, List.setIfInBounds_toArray, List.set_cons_succ, List.set_cons_zero]
  refine tk (i := 3) (v := ?v3x45) (some 62) rfl rfl (Or.inl ⟨by kernel_rfl, ?h3x45⟩) ?r3x45
  case h3x45 => (intro w hSw; have s1 := hSw.1; obtain ⟨b0, b1, b2, b3, b4, b5, b9, b10, b12, b14, b15, b16, b19, b31, bf12, bf19, bf31, bz⟩ := use_box s1; go_simp; first | done | (with_reducible rfl))
  try simp only [Act.put, List.setIfInBounds_toArray, List.set_cons_succ, List.set_cons_zero]
  refine tk (i := 4) (v := .agg R.arr) (some 63) rfl rfl (yieldsIf_load_sub (by kernel_rfl) 43 (.tmp 62) rfl g 5 rfl _ R.arr (fun W' hW' => hW'.1) (fun j v hv => use_sub _ _ _ _ _ _ _ j v hv) undRun rfl infoRun) ?_
  try simp only [Act.put, List.setIfInBounds_toArray, List.set_cons_succ, List.set_cons_zero]
  refine tk (i := 6) (v := ?v6x46) (some 65) rfl rfl (Or.inl ⟨by kernel_rfl, ?h6x46⟩) ?r6x46
  case h6x46 => (intro w hSw; have s1 := hSw.1; obtain ⟨b0, b1, b2, b3, b4, b5, b9, b10, b12, b14, b15, b16, b19, b31, bf12, bf19, bf31, bz⟩ := use_box s1; go_simp; first | done | (with_reducible rfl))
  try simp only [Act.put, List.setIfInBounds_toArray, List.set_cons_succ, List.set_cons_zero]
  refine tk (i := 7) (v := ?v7x47) (some 66) rfl rfl (Or.inl ⟨by kernel_rfl, ?h7x47⟩) ?r7x47
  case h7x47 => (intro w hSw; have s1 := hSw.1; obtain ⟨b0, b1, b2, b3, b4, b5, b9, b10, b12, b14, b15, b16, b19, b31, bf12, bf19, bf31, bz⟩ := use_box s1; go_simp; first | done | (with_reducible rfl))
  try simp only [Act.put, List.setIfInBounds_toArray, List.set_cons_succ, List.set_cons_zero]
  refine tk (i := 8) (v := ?v8x48) (some 67) rfl rfl (Or.inl ⟨by kernel_rfl, ?h8x48⟩) ?r8x48
  case h8x48 => (intro w hSw; have s1 := hSw.1; obtain ⟨b0, b1, b2, b3, b4, b5, b9, b10, b12, b14, b15, b16, b19, b31, bf12, bf19, bf31, bz⟩ := use_box s1; go_simp; first | done | (with_reducible rfl))
  try simp only [Act.put, List.setIfInBounds_toArray, List.set_cons_succ, List.set_cons_zero]
  refine tk (i := 9) (v := ?v9x49) (some 68) rfl rfl (Or.inl ⟨by kernel_rfl, ?h9x49⟩) ?r9x49
  case h9x49 => (intro w hSw; have s1 := hSw.1; obtain ⟨b0, b1, b2, b3, b4, b5, b9, b10, b12, b14, b15, b16, b19, b31, bf12, bf19, bf31, bz⟩ := use_box s1; go_simp; first | done | (with_reducible rfl))
  try simp only [Act.put, List.setIfInBounds_toArray, List.set_cons_succ, List.set_cons_zero]
  refine wpAnyH_ready (rs := [5]) (by kernel_rfl) (by simp) ?_
  refine AllReadyH.cons rfl (fun K hK => ?_) AllReadyH.nil
  go_simp
  refine (refusedAt_any r R _).mono ?_
  rintro e' y1 ⟨rfl, hb⟩
  go_simp
  replace hZ0 := row_below hZ0 hb
  replace hB0 := below_only hB0 hb
  refine hK.out _ _ (⟨row_below hS.1 hb, row_below hS.2 hb⟩) (fun hS => ?_)
  clear hK K
  try simp only [Act.put, List.setIfInBounds_toArray, List.set_cons_succ, List.set_cons_zero]
  clear hb
  refine wpAnyH_ready (rs := [10]) (by kernel_rfl) (by simp) ?_
  refine AllReadyH.cons rfl (fun K hK => ?_) AllReadyH.nil
  go_simp
  refine (tell_any { R with pc := r.pc } E 0 _ Hs.out).mono ?_
  rintro e' y2 ⟨rfl, hb⟩
  go_simp
  replace hZ0 := row_below hZ0 hb
  replace hB0 := below_only hB0 hb
  refine hK.out _ _ (⟨row_below hS.1 hb, row_below hS.2 hb⟩) (fun hS => ?_)
  clear hK K
  try simp only [Act.put, List.setIfInBounds_toArray, List.set_cons_succ, List.set_cons_zero]
  clear hb
  refine wpAnyH_ready (rs := [11]) (by kernel_rfl) (by simp) ?_
  refine AllReadyH.cons rfl (fun K hK => ?_) AllReadyH.nil
  refine step_store_row none rfl rfl 43 (.tmp 6) (.tmp 69) rfl (w.heap.size + 1 + 1) (toldR { R with pc := r.pc } E 0 noS).arr rfl rfl 43 ZRun hZ0 infoRun rfl (Rn.one _) ?_
  refine hK.out _ _ (⟨(setRow_other _ _ _ _ (by have := Hgz.out; omega)).trans hS.1, (setRow_other _ _ _ _ (by omega)).trans hS.2⟩) (fun hS => ?_)
  clear hK K
  try simp only [Act.put, List.setIfInBounds_toArray, List.set_cons_succ, List.set_cons_zero]
  refine tk (i := 12) (v := ?v12x50) (some 7) rfl rfl (Or.inl ⟨by kernel_rfl, ?h12x50⟩) ?r12x50
  case h12x50 => (intro w hSw; have s1 := hSw.1; obtain ⟨b0, b1, b2, b3, b4, b5, b9, b10, b12, b14, b15, b16, b19, b31, bf12, bf19, bf31, bz⟩ := use_box s1; go_simp; first | done | (with_reducible rfl))
  try simp only [Act.put, List.setIfInBounds_toArray, List.set_cons_succ, List.set_cons_zero]
  refine wpAnyH_done (by kernel_rfl) ?_ _
  have HZ := Lib.hid hZ0
  have HB9 := Lib.hid hB0
  clear hS hZ0 hB0
  go_wp2_with fail
  refine bodyPost_ret (results_cell_row_tmp (fn := Tryz.f14) rfl _ _ (w.heap.size + 1 + 1) 43 (toldR { R with pc := r.pc } E 0 noS).arr (0, 0) _ rfl (setRow_heap y2 _ _ _ _ (0, 0) HZ.out) undRun rfl infoRun) rfl ?_
  exact ⟨by rw [HZe.out]; first | done | rfl, below_setRow HB9.out (by omega) _⟩

set_option maxRecDepth 100000 in
set_option maxHeartbeats 4000000 in
theorem slLast_any (p b : Nat) (s t i h : Int) (ws : List Int) (r : Rn) (w : World) (hA : Arn w p b ws) (hd : r.done = false) (hp : 9 ≤ r.pc ∧ r.pc ≤ 12) (hs : r.said = noS) (n : Int) (ws' : List Int) (hC : ∀ (g : Nat) (w' : World), w.heap.size ≤ g → Below w.heap.size w w' → Use w' g p s t i h r 0 → Calls Tryz.prog 36 #[.pointer (some ⟨g, 0, none⟩)] w' fun e w'' => e = .returned (.int .i64 n) ∧ Arn w'' p b ws' ∧ Use w'' g p s t i h r 0 ∧ Keep [b] w' w'') :
  Calls Tryz.prog 14 #[.agg #[.int .i64 s, .int .i64 t, .int .i64 i, .int .i64 h], .pointer (some ⟨p, 0, none⟩), r.v] w fun e w' => e = .returned (.tuple #[(toldR r 0 n noS).v, .int .i64 0]) ∧ Arn w' p b ws' ∧ Keep [b] w w' := by
 have HA := Lib.hid hA
 have Hd := Lib.hid hd
 have Hs := Lib.hid hs
 have HC := Lib.hid hC
 have Hin : Hid (inB r.pc 5 12 = true) := Lib.hid (by unfold inB; simp; omega)
 have n5 : decide (r.pc = 5) = false := decide_eq_false (by omega)
 have n6 : decide (r.pc = 6) = false := decide_eq_false (by omega)
 have n7 : decide (r.pc = 7) = false := decide_eq_false (by omega)
 have n8 : decide (r.pc = 8) = false := decide_eq_false (by omega)
 have m5 : (r.pc == 5) = false := by simp; omega
 have m6 : (r.pc == 6) = false := by simp; omega
 have m7 : (r.pc == 7) = false := by simp; omega
 have m8 : (r.pc == 8) = false := by simp; omega
 clear hd hp hs hC
 clear hA
 go_enter Tryz.func14, Tryz.ntmps14
 go_upto_region 1 with fail
 refine three_rows w _ _ _ _ _ _ ?_
 intro W hP hR hZ hB
 have HP := Lib.hid hP
 have HR := Lib.hid hR
 have HZ := Lib.hid hZ
 have HB := Lib.hid hB
 clear hP hR hZ hB
 have q7 : W.cell? ⟨w.heap.size + 1, 7, none⟩ = some (.int .i64 r.pc) := by rw [row_cell HR.out]; rfl
 have q21 : W.cell? ⟨w.heap.size + 1, 21, none⟩ = some (.bool false) := by rw [row_cell HR.out, ← Hd.out]; rfl
 have q9 : W.cell? ⟨w.heap.size + 1, 9, none⟩ = some (.int .u64 r.hand) := by rw [row_cell HR.out]; rfl
 have q10 : W.cell? ⟨w.heap.size + 1, 10, none⟩ = some (.int .u64 r.val) := by rw [row_cell HR.out]; rfl
 go_wp2_with fail
 refine (within_any r.pc 5 12 _).mono ?_
 rintro e1 w1 ⟨rfl, rfl⟩
 rw [show inB r.pc 5 12 = true from Hin.out]
 obtain ⟨x0, x1, x2, x3, _⟩ := box4 HP.out
 go_upto_region 4 with (refine wpList_load_row rfl 43 (.tmp 5) rfl (w.heap.size + 1) rfl 43 r.arr (0, 0) _ HR.out undRun rfl infoRun ?_)
 refine one_row w1 _ _ ?_
 intro w7 hC hb
 obtain ⟨g, Hg⟩ : ∃ g, g = w1.heap.size := ⟨_, rfl⟩
 rw [← Hg] at hC ⊢
 have HT : Hid (Use w7 g p s t i h r 0) := Lib.hid (hC.trans (by rw [← use_lit]))
 have Hgz : Hid (w.heap.size + 1 + 1 < g) := Lib.hid (by have := lt_of_heap HZ.out; omega)
 have Hgr : Hid (w.heap.size ≤ g) := Lib.hid (by have := HB.out.size; omega)
 replace HZ := Lib.hid (row_below HZ.out hb)
 replace HR := Lib.hid (row_below HR.out hb)
 have HB7 := Lib.hid (below_only HB.out hb)
 have p7 : w7.cell? ⟨w.heap.size + 1, 7, none⟩ = some (.int .i64 r.pc) := by rw [row_cell HR.out]; rfl
 have p9 : w7.cell? ⟨w.heap.size + 1, 9, none⟩ = some (.int .u64 r.hand) := by rw [row_cell HR.out]; rfl
 have p10 : w7.cell? ⟨w.heap.size + 1, 10, none⟩ = some (.int .u64 r.val) := by rw [row_cell HR.out]; rfl
 clear hC hb Hg x0 x1 x2 x3 HP q7 q21 q9 q10 HB
 go_wp2_with fail
 clear p7 p9 p10
 clear n5 n6 n7 n8 m5 m6 m7 m8
 refine (HC.out g w7 Hgr.out HB7.out HT.out).mono ?_
 rintro e' w9 ⟨rfl, hA9, hT9, hK9⟩
 have HT9 := Lib.hid hT9
 have HA9 := Lib.hid hA9
 have Hbz : Hid (b < w.heap.size) := Lib.hid (lt_of_heap HA.out.row)
 have Hpz : Hid (p < w.heap.size) := Lib.hid (lt_of_heap HA.out.box)
 replace HZ := Lib.hid (hK9.row HZ.out (by have := Hbz.out; simp; omega))
 have HK9 := Lib.hid (show Keep [b] w w9 from (keep_below HB7.out [b]).trans hK9)
 have hgl := lt_of_heap hT9
 clear hT9 hK9 HB7 HT HC hA9 HR HA
 go_wp2_with (refine wpList_load_sub rfl 43 (.tmp 30) rfl g 5 rfl 96 _ r.arr (0, 0) _ HT9.out (fun j v hv => use_sub _ _ _ _ _ _ _ j v hv) undRun rfl infoRun ?_)
 refine (tell_any r 0 n _ Hs.out).mono ?_
 rintro e' w10 ⟨rfl, hb⟩
 replace HZ := Lib.hid (row_below HZ.out hb)
 replace HA9 := Lib.hid (HA9.out.below hb)
 replace HK9 := Lib.hid (HK9.out.call hb)
 clear hb HT9 hgl
 go_wp2_with (refine wpList_store_row rfl 43 (.tmp 6) (.tmp 33) rfl (w.heap.size + 1 + 1) (toldR r 0 n noS).arr rfl rfl 43 ZRun HZ.out infoRun rfl (by first | exact Rn.one _ | kernel_rfl) ?_)
 refine bodyPost_ret (results_cell_row_tmp (fn := Tryz.f14) rfl _ _ (w.heap.size + 1 + 1) 43 (toldR r 0 n noS).arr (0, 0) _ rfl (setRow_heap w10 _ _ _ _ (0, 0) HZ.out) undRun rfl infoRun) rfl ?_
 have hKs := (Keep.refl [w.heap.size + 1 + 1] w10).setRow (g := w.heap.size + 1 + 1) (.inl (by simp)) (toldR r 0 n noS).arr
 exact ⟨rfl, HA9.out.kept hKs (by have := Hpz.out; simp; omega) (by have := Hbz.out; simp; omega), HK9.out.then hKs (fun i hi h => by simp at h ⊢; omega)⟩
end Go.Proofs.YtnimaajnlkbdaaaGreat
