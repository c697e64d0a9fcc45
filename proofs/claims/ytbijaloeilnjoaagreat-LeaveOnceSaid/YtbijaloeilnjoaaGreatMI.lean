/- Words for sub-rows (a struct within a row, at an offset) and for small maps that are made on the spot. No program in sight. The document's arena in memory: words. The walks of its Is, Word, Put and Cas. Plans that may be, and where all stands: the walks of plan's functions, and of the document's. -/
import Derived.Test.YtbijaloeilnjoaaGreatMA
import Derived.MapKept
import Derived.Deep.Cut
import Derived.Deep.CutRange
import Derived.Deep.CutBlock
import Derived.Deep.QuietTactic
import Derived.BigQuiet
import Derived.Test.YtbijaloeilnjoaaGreatME
import Derived.Test.YtbijaloeilnjoaaGreatNum
namespace Go.Proofs.YtbijaloeilnjoaaGreat
open Go.RowKit
set_option linter.unusedSimpArgs false

section
variable {P : Program}
theorem run_loadVar_sub (w : World) (g off : Nat) (t ty : TypeId) (cur cs : Array Value) (fr : Nat × Nat) (d : TypeDesc) (hg : w.heap[g]? = some (.cells cur t fr))
  (hc : ∀ j v, cs[j]? = some v → cur[off + j]? = some v)
  (hu : P.underlying ty = some d) (hd : (match d with | .struct _ | .array _ _ => true | _ => false) = true) (hi : (P.info? ty).map (·.size) = some cs.size) :
  (loadVar ty ⟨g, off, none⟩).run P w = .ok (.agg cs) w := by
 have hl : (loadCells ⟨g, off, none⟩ cs.toList.length).run P w = .ok cs.toList.toArray w :=
  run_loadCells_list (P := P) w ⟨g, off, none⟩ cs.toList (fun j v hv => by
   rw [add_mk, row_cell hg]
   exact hc j v (by simpa using hv))
 cases hq : P.info? ty with
 | none => simp [hq] at hi
 | some i =>
  have hs : i.size = cs.size := by simpa [hq] using hi
  have hagg : (isAgg ty).run P w = .ok true w := by
   unfold isAgg
   rw [Sem.run_bind, run_underlying hu w]
   cases d <;> simp_all
  simp only [Array.length_toList, Array.toArray_toList] at hl
  simp [loadVar, Sem.run_bind, hagg, sizeOf, typeInfo, hq, hs, hl]

theorem wp_load_sub {o : Oper} {a : Act} {w : World} {K : Act → World → Prop} {Q : Exit → Act → World → Prop} (ty : TypeId) (x : Operand) (ho : o.op = .load ty x)
  (g off : Nat) (hx : a.eval x = .pointer (some ⟨g, off, none⟩)) (t : TypeId) (cur cs : Array Value) (fr : Nat × Nat) (d : TypeDesc) (hg : w.heap[g]? = some (.cells cur t fr))
  (hc : ∀ j v, cs[j]? = some v → cur[off + j]? = some v)
  (hu : P.underlying ty = some d) (hd : (match d with | .struct _ | .array _ _ => true | _ => false) = true) (hi : (P.info? ty).map (·.size) = some cs.size)
  (h : K (a.put o.dst (.agg cs)) w) : o.wp P a w K Q := by
 unfold Oper.wp execOp
 simp only [ho, hx, Instr.loadAt, Instr.sureAddr, Sem.run_bind, Sem.run_pure, Result.andThen_ok, run_loadVar_sub w g off t ty cur cs fr d hg hc hu hd hi]
 exact h

theorem wpList_load_sub {ops : Array Oper} {rest : List Oper} {o : Oper} {a : Act} {w : World} {Q : Exit → Act → World → Prop} (hgd : o.guard = none) (ty : TypeId) (x : Operand) (ho : o.op = .load ty x)
  (g off : Nat) (hx : a.eval x = .pointer (some ⟨g, off, none⟩)) (t : TypeId) (cur cs : Array Value) (fr : Nat × Nat) (d : TypeDesc) (hg : w.heap[g]? = some (.cells cur t fr))
  (hc : ∀ j v, cs[j]? = some v → cur[off + j]? = some v)
  (hu : P.underlying ty = some d) (hd : (match d with | .struct _ | .array _ _ => true | _ => false) = true) (hi : (P.info? ty).map (·.size) = some cs.size)
  (h : wpList P ops Q rest (a.put o.dst (.agg cs)) w) : wpList P ops Q (o :: rest) a w :=
 wpList_plain hgd fun _ hK => wp_load_sub ty x ho g off hx t cur cs fr d hg hc hu hd hi (hK _ _ h)

/-- a row, from an offset on others -/
def subSet (cur : Array Value) (off : Nat) (cells : Array Value) : Array Value := (cur.toList.take off ++ cells.toList ++ cur.toList.drop (off + cells.size)).toArray
theorem run_storeVar_sub (w : World) (g off : Nat) (t ty : TypeId) (old cells : Array Value) (hg : w.heap[g]? = some (.cells old t (0, 0))) (hi : (P.info? ty).map (·.size) = some cells.size)
  (ho : off + cells.size ≤ old.size) (h1 : cells.all (·.oneCell') = true) :
  (storeVar ty ⟨g, off, none⟩ (.agg cells)).run P w = .ok () (w.setRow g (subSet old off cells)) := by
 have := run_storeCells_at P g off t cells.toList 0 old w hg (by simp; omega) (fun v hv => (Array.all_eq_true_iff_forall_mem.1 h1) v (by simpa using hv))
 cases hq : P.info? ty with
 | none => simp [hq] at hi
 | some i =>
  have hs : cells.size = i.size := by simp [hq] at hi; omega
  simp [storeVar, sizeOf, typeInfo, hq, Value.cells, hs, this, subSet]

theorem wp_store_sub {o : Oper} {a : Act} {w : World} {K : Act → World → Prop} {Q : Exit → Act → World → Prop} (ty : TypeId) (x y : Operand) (ho : o.op = .store ty x y)
  (g off : Nat) (cells : Array Value) (hx : a.eval x = .pointer (some ⟨g, off, none⟩)) (hy : a.eval y = .agg cells)
  (t : TypeId) (old : Array Value) (hg : w.heap[g]? = some (.cells old t (0, 0))) (hi : (P.info? ty).map (·.size) = some cells.size)
  (hold : off + cells.size ≤ old.size) (h1 : cells.all (·.oneCell') = true)
  (h : K (a.put o.dst undef) (w.setRow g (subSet old off cells))) : o.wp P a w K Q := by
 unfold Oper.wp execOp
 simp only [ho, hx, hy, Instr.storeAt, Instr.sureAddr, Sem.run_bind, Sem.run_pure, Result.andThen_ok, run_storeVar_sub w g off t ty old cells hg hi hold h1]
 exact h

theorem wpList_store_sub {ops : Array Oper} {rest : List Oper} {o : Oper} {a : Act} {w : World} {Q : Exit → Act → World → Prop} (hgd : o.guard = none) (ty : TypeId) (x y : Operand) (ho : o.op = .store ty x y)
  (g off : Nat) (cells : Array Value) (hx : a.eval x = .pointer (some ⟨g, off, none⟩)) (hy : a.eval y = .agg cells)
  (t : TypeId) (old : Array Value) (hg : w.heap[g]? = some (.cells old t (0, 0))) (hi : (P.info? ty).map (·.size) = some cells.size)
  (hold : off + cells.size ≤ old.size) (h1 : cells.all (·.oneCell') = true)
  (h : wpList P ops Q rest (a.put o.dst undef) (w.setRow g (subSet old off cells))) : wpList P ops Q (o :: rest) a w :=
 wpList_plain hgd fun _ hK => wp_store_sub ty x y ho g off cells hx hy t old hg hi hold h1 (hK _ _ h)

theorem subSet_in (cur : Array Value) (off : Nat) (cells : Array Value) (h : off + cells.size ≤ cur.size) (j : Nat) (v : Value) (hj : cells[j]? = some v) : (subSet cur off cells)[off + j]? = some v := by
 have hl : j < cells.size := by
  rcases Nat.lt_or_ge j cells.size with h1 | h1
  ·exact h1
  ·rw [Array.getElem?_eq_none h1] at hj; cases hj
 have e : (cur.toList.take off).length = off := by simp; omega
 unfold subSet
 rw [List.getElem?_toArray, List.append_assoc, List.getElem?_append_right (by omega), e, Nat.add_sub_cancel_left, List.getElem?_append_left (by simpa using hl)]
 simpa using hj
theorem subSet_out (cur : Array Value) (off : Nat) (cells : Array Value) (h : off + cells.size ≤ cur.size) (j : Nat) (hj : j < off ∨ off + cells.size ≤ j) : (subSet cur off cells)[j]? = cur[j]? := by
 have e : (cur.toList.take off).length = off := by simp; omega
 unfold subSet
 rw [List.getElem?_toArray, List.append_assoc]
 rcases hj with hj | hj
 ·rw [List.getElem?_append_left (by omega), List.getElem?_take, if_pos hj]
  simp
 ·rw [List.getElem?_append_right (by omega), e, List.getElem?_append_right (by simp; omega), List.getElem?_drop]
  rw [show off + cells.size + (j - off - cells.toList.length) = j by simp; omega]
  simp

theorem one_row {P : World → Prop} (w : World) (c0 : Array Value) (t0 : TypeId) (h : ∀ W, W.heap[w.heap.size]? = some (.cells c0 t0 (0, 0)) → Below w.heap.size w W → P W) : P (w.alloc (.cells c0 t0)) :=
 h _ (row_new _ _ _) (by go_grown)
theorem two_rows' {P : World → Prop} (w : World) (c0 c1 : Array Value) (t0 t1 : TypeId) (h : ∀ W, W.heap[w.heap.size]? = some (.cells c0 t0 (0, 0)) → W.heap[w.heap.size + 1]? = some (.cells c1 t1 (0, 0)) → Below w.heap.size w W → P W) :
  P ((w.alloc (.cells c0 t0)).alloc (.cells c1 t1)) :=
 h _ (row_alloc (row_new _ _ _)) (heap_at (by simp)) (by go_grown)

theorem results_cell_row_tmp {fn : Func} {p u : Tmp} {ty : TypeId} (h : fn.results = #[.cell p ty, .tmp u]) (tmps : Array Value) (w : World) (g : Nat) (t : TypeId) (cs : Array Value) (fr : Nat × Nat) (d : TypeDesc)
  (hp : tmps.getD p undef = .pointer (some ⟨g, 0, none⟩)) (hg : w.heap[g]? = some (.cells cs t fr))
  (hu : P.underlying ty = some d) (hd : (match d with | .struct _ | .array _ _ => true | _ => false) = true) (hi : (P.info? ty).map (·.size) = some cs.size) :
  (results fn tmps).run P w = .ok (.tuple #[.agg cs, tmps.getD u undef]) w := by
 have hp' : tmps[p]?.getD undef = .pointer (some ⟨g, 0, none⟩) := by simpa using hp
 simp [results, h, hp', asAddr, run_loadVar_row w g t ty cs fr d hg hu hd hi]

/- a map of two entries, made on the spot: numbers to whatever -/
theorem wpList_makeMap {ops : Array Oper} {rest : List Oper} {o : Oper} {a : Act} {w : World} {Q : Exit → Act → World → Prop} (hgd : o.guard = none) (t : TypeId) (ho : o.op = .makeMap t none)
  (h : wpList P ops Q rest (a.put o.dst (.map (some w.heap.size))) (w.alloc (.map #[] 0))) : wpList P ops Q (o :: rest) a w := by
 refine wpList_plain hgd fun K hK => ?_
 unfold Oper.wp execOp
 simp only [ho, Instr.makeMap, Sem.run_bind, Sem.run_pure, Result.andThen_ok, Option.map_none]
 exact hK _ _ h
theorem wpList_insert {ops : Array Oper} {rest : List Oper} {o : Oper} {a : Act} {w : World} {Q : Exit → Act → World → Prop} (hgd : o.guard = none) (t : TypeId) (m x v : Operand) (ho : o.op = .insert t m x v)
  (kt et : TypeId) (hm : P.underlying t = some (.map kt et)) (hd : P.underlying kt = some (.int .i64)) (b : Nat) (k : Int) (val : Value) (es : Array MapEntry) (clock : Nat)
  (e1 : a.eval m = .map (some b)) (e2 : a.eval x = .int .i64 k) (e3 : a.eval v = val) (hb : w.heap[b]? = some (.map es clock)) (hf : Instr.findNow (.int .i64) (.int .i64 k) es.toList 0 = some none)
  (h : ∀ w', w'.heap[b]? = some (.map (es.push { key := .int .i64 k, val := val, born := clock }) (clock + 1)) → w.grownBy w' (some b) → wpList P ops Q rest (a.put o.dst undef) w') : wpList P ops Q (o :: rest) a w := by
 refine wpList_plain hgd fun K hK => ?_
 have hrun : (Instr.mapUpdate t (.map (some b)) (.int .i64 k) val).run P w = .ok () { w with heap := w.heap.setIfInBounds b (.map (es.push { key := .int .i64 k, val := val, born := clock }) (clock + 1)) } := by
  unfold Instr.mapUpdate
  simp only [Sem.run_bind, run_underlying hm, Result.andThen_ok, MapKept.run_getObj_map hb, MapKept.run_checkKey hd (k := .int .i64 k) (by simp [MapKept.IsKey]), MapKept.run_findKey hd hf, MapKept.run_setObj_map _ hb]
 unfold Oper.wp execOp
 simp only [ho, e1, e2, e3, hrun, Sem.run_bind, Sem.run_pure, Result.andThen_ok]
 refine hK _ _ (h _ (MapKept.heap_set hb).1 ⟨rfl, rfl, rfl, by simp, fun i _ hi => (MapKept.heap_set hb).2 i (fun e => hi (by rw [e]))⟩)
end
end Go.Proofs.YtbijaloeilnjoaaGreat

namespace Go.Proofs.YtbijaloeilnjoaaGreat
open Go.RowKit
set_option linter.unusedVariables false

/-- the document's arena: its box q, its words b -/
structure RArn (w : World) (q b : Nat) (ws : List Int) : Prop where
 box : w.heap[q]? = some (.cells #[.slice (some ⟨b, 0, none⟩) ws.length ws.length] 78 (0, 0))
 row : w.heap[b]? = some (.cells (ws.map (Value.int .u64)).toArray 36 (0, 0))
 ok : ∀ x ∈ ws, 0 ≤ x ∧ x < 18446744073709551616
 ne : q ≠ b
 small : ws.length ≤ 8192
 some : 1 ≤ ws.length
section
variable {w w' : World} {q b : Nat} {ws : List Int}
theorem RArn.below (h : RArn w q b ws) (hb : Below w.heap.size w w') : RArn w' q b ws := { h with box := row_below h.box hb, row := row_below h.row hb }
theorem RArn.kept {S : List Nat} (h : RArn w q b ws) (k : Keep S w w') (hp : q ∉ S) (hb : b ∉ S) : RArn w' q b ws := { h with box := k.row h.box hp, row := k.row h.row hb }
theorem RArn.cell (h : RArn w q b ws) (k : Nat) (x : Int) (hk : ws[k]? = Option.some x) : w.cell? ⟨b, k, none⟩ = Option.some (.int .u64 x) := by
 rw [row_cell h.row, List.getElem?_toArray, List.getElem?_map, hk]; rfl
theorem RArn.store (h : RArn w q b ws) (k : Nat) (y : Int) (hy : 0 ≤ y ∧ y < 18446744073709551616) : RArn (w.setCell ⟨b, k, none⟩ (.int .u64 y)) q b (ws.set k y) := by
 refine ⟨?_, ?_, ?_, h.ne, by simpa using h.small, by simpa using h.some⟩
 ·rw [List.length_set]
  exact (Below.heap_setCell _ _ _ _ h.ne).trans h.box
 ·have := row_set (i := k) h.row (.int .u64 y)
  rw [this]
  congr 2
  rw [List.setIfInBounds_toArray, List.map_set]
 ·intro z hz
  rcases List.mem_or_eq_of_mem_set hz with h1 | h1
  ·exact h.ok z h1
  ·rw [h1]; exact hy
end

set_option maxRecDepth 100000 in
set_option maxHeartbeats 1000000 in
theorem rarnIs_any (q b : Nat) (ws : List Int) (k : Nat) (a : Int) (w : World) (h : RArn w q b ws) (hk : k < ws.length) (ha : a = 8 * (k : Int)) :
  Calls Tryz.prog 85 #[.pointer (some ⟨q, 0, none⟩), .int .i64 a] w fun r w' => r = .returned (.bool true) ∧ w' = w := by
 have hs := h.small
 obtain ⟨p0, _⟩ := box1 h.box
 obtain ⟨n, Hn⟩ : ∃ n : Nat, n = ws.length := ⟨_, rfl⟩
 rw [← Hn] at p0
 have n1 : n ≤ 8192 := by omega
 have a0 : 0 ≤ a := by omega
 have a1 : a < 8 * (n : Int) := by omega
 have a2 : a ≤ 65536 := by omega
 have hm' : (a % 8 == 0) = true := by
  have : a % 8 = 0 := by omega
  simpa using this
 clear Hn hs h hk ha
 go_enter Tryz.func85, Tryz.ntmps85
 go_wp2
 go_ret
 exact ⟨rfl, rfl⟩

set_option maxRecDepth 100000 in
set_option maxHeartbeats 1000000 in
theorem rarnWord_any (q b : Nat) (ws : List Int) (k : Nat) (x a : Int) (w : World) (h : RArn w q b ws) (hk : ws[k]? = some x) (ha : a = 8 * (k : Int)) :
  Calls Tryz.prog 38 #[.pointer (some ⟨q, 0, none⟩), .int .i64 a] w fun r w' => r = .returned (.tuple #[.int .u64 x, .int .i64 0]) ∧ w' = w := by
 have hkl := (List.getElem?_eq_some_iff.1 hk).1
 have HI := Lib.hid (rarnIs_any q b ws k a w h hkl ha)
 have hs := h.small
 obtain ⟨p0, _⟩ := box1 h.box
 have c0 := h.cell k x hk
 obtain ⟨n, Hn⟩ : ∃ n : Nat, n = ws.length := ⟨_, rfl⟩
 rw [← Hn] at p0
 have n1 : n ≤ 8192 := by omega
 have k1 : k < n := by omega
 have a0 : 0 ≤ a := by omega
 have a2 : a ≤ 65536 := by omega
 have e1 : a.tdiv 8 = k := by rw [Int.tdiv_eq_ediv_of_nonneg (by omega)]; omega
 have e2 : a / 8 = k := by omega
 clear Hn hs h hk ha hkl
 go_enter Tryz.func38, Tryz.ntmps38
 go_wp2_with (go_at_call 85; refine HI.out.mono ?_; rintro r w1 ⟨rfl, rfl⟩)
 go_ret2
 exact ⟨rfl, rfl⟩

set_option maxRecDepth 100000 in
set_option maxHeartbeats 1000000 in
theorem rarnPut_any (q b : Nat) (ws : List Int) (k : Nat) (x y a : Int) (w : World) (h : RArn w q b ws) (hk : ws[k]? = some x) (ha : a = 8 * (k : Int)) (hy : 0 ≤ y ∧ y < 18446744073709551616) :
  Calls Tryz.prog 37 #[.pointer (some ⟨q, 0, none⟩), .int .i64 a, .int .u64 y] w fun r w' => r = .returned (.int .i64 0) ∧ RArn w' q b (ws.set k y) ∧ Keep [b] w w' := by
 have hkl := (List.getElem?_eq_some_iff.1 hk).1
 have HI := Lib.hid (rarnIs_any q b ws k a w h hkl ha)
 have hs := h.small
 obtain ⟨p0, _⟩ := box1 h.box
 have c0 := h.cell k x hk
 have c0f : w.frozen? ⟨b, k, none⟩ = false := row_frozen h.row _
 have HS := Lib.hid (h.store k y hy)
 have HK := Lib.hid ((Keep.refl [b] w).setCell (p := ⟨b, k, none⟩) (.inl (by simp)) (.int .u64 y))
 obtain ⟨n, Hn⟩ : ∃ n : Nat, n = ws.length := ⟨_, rfl⟩
 rw [← Hn] at p0
 have n1 : n ≤ 8192 := by omega
 have k1 : k < n := by omega
 have a0 : 0 ≤ a := by omega
 have a2 : a ≤ 65536 := by omega
 have e1 : a.tdiv 8 = k := by rw [Int.tdiv_eq_ediv_of_nonneg (by omega)]; omega
 have e2 : a / 8 = k := by omega
 clear Hn hs h hk ha hkl hy
 go_enter Tryz.func37, Tryz.ntmps37
 go_wp2_with (go_at_call 85; refine HI.out.mono ?_; rintro r w1 ⟨rfl, rfl⟩)
 go_ret
 exact ⟨rfl, HS.out, HK.out⟩

set_option maxRecDepth 100000 in
set_option maxHeartbeats 1000000 in
theorem rarnCas_no (q b : Nat) (ws : List Int) (k : Nat) (x old y a : Int) (w : World) (h : RArn w q b ws) (hk : ws[k]? = some x) (ha : a = 8 * (k : Int)) (hne : x ≠ old) :
    Calls Tryz.prog 98 #[.pointer (some ⟨q, 0, none⟩), .int .i64 a, .int .u64 old, .int .u64 y] w fun r w' => r = .returned (.tuple #[.bool false, .int .i64 0]) ∧ w' = w := by
  have HW := Lib.hid (rarnWord_any q b ws k x a w h hk ha)
  have hne' : (x != old) = true := by simpa using hne
  clear hne h hk ha
  go_enter Tryz.func98, Tryz.ntmps98
  go_wp2_with (go_at_call 38; refine HW.out.mono ?_; rintro r w1 ⟨rfl, rfl⟩)
  go_ret2
  exact ⟨rfl, rfl⟩

set_option maxRecDepth 100000 in
set_option maxHeartbeats 1000000 in
theorem rarnCas_yes (q b : Nat) (ws : List Int) (k : Nat) (x y a : Int) (w : World) (h : RArn w q b ws) (hk : ws[k]? = some x) (ha : a = 8 * (k : Int)) (hy : 0 ≤ y ∧ y < 18446744073709551616) :
    Calls Tryz.prog 98 #[.pointer (some ⟨q, 0, none⟩), .int .i64 a, .int .u64 x, .int .u64 y] w fun r w' => r = .returned (.tuple #[.bool true, .int .i64 0]) ∧ RArn w' q b (ws.set k y) ∧ Keep [b] w w' := by
  have HW := Lib.hid (rarnWord_any q b ws k x a w h hk ha)
  have HP := Lib.hid (rarnPut_any q b ws k x y a w h hk ha hy)
  clear h hk hy ha
  go_enter Tryz.func98, Tryz.ntmps98
  go_wp2_with fail
  refine HW.out.mono ?_
  rintro r w1 ⟨rfl, e1⟩
  rw [e1]
  clear e1 w1
  go_wp2_with fail
  refine HP.out.mono ?_
  rintro r w2 ⟨rfl, hA, hK⟩
  have HA := Lib.hid hA
  have HKp := Lib.hid hK
  clear hA hK
  go_wp2_with fail
  go_ret2
  exact ⟨rfl, HA.out, HKp.out⟩

end Go.Proofs.YtbijaloeilnjoaaGreat

namespace Go.Proofs.YtbijaloeilnjoaaGreat
open Go.RowKit
set_option linter.unusedVariables false
set_option linter.unusedSimpArgs false
theorem row_two {w : World} {g : Nat} {a b a' b' : Value} {t : TypeId} (h : w.heap[g]? = some (.cells #[a, b] t (0, 0))) :
  ((w.setCell ⟨g, 0, none⟩ a').setCell ⟨g, 1, none⟩ b').heap[g]? = some (.cells #[a', b'] t (0, 0)) := by
 have := row_set (i := 1) (row_set (i := 0) h a') b'
 simpa using this
theorem infoExt2 : (Tryz.prog.info? 124).map (·.size) = some 2 := by kernel_rfl

/-- a plan that may be -/
structure PlanOk (s t i h : Int) : Prop where
 s0 : 1 ≤ s
 s1 : s ≤ 8
 t0 : 1 ≤ t
 t1 : t ≤ 4
 i0 : 0 ≤ i
 i1 : i ≤ 2048
 h0 : 0 ≤ h
 h1 : h ≤ 8192
 i8 : i % 8 = 0
 h8 : h % 8 = 0

theorem or8 (i h : Int) (i0 : 0 ≤ i) (i1 : i ≤ 2048) (h0 : 0 ≤ h) (h1 : h ≤ 8192) (i8 : i % 8 = 0) (h8 : h % 8 = 0) : bits .or .i64 i h % 8 = 0 ∧ 0 ≤ bits .or .i64 i h := by
 obtain ⟨X, rfl⟩ := Int.eq_ofNat_of_zero_le i0
 obtain ⟨Y, rfl⟩ := Int.eq_ofNat_of_zero_le h0
 have e : bits .or .i64 (X : Int) (Y : Int) = ((X ||| Y : Nat) : Int) := by
  show IntKind.i64.wrap ((BitVec.ofInt 64 (X : Int) ||| BitVec.ofInt 64 (Y : Int)).toNat : Int) = _
  rw [BitVec.toNat_or, BitVec.ofInt_natCast, BitVec.ofInt_natCast, BitVec.toNat_ofNat, BitVec.toNat_ofNat, Nat.mod_eq_of_lt (by omega), Nat.mod_eq_of_lt (by omega)]
  have hlt : X ||| Y < 2 ^ 14 := Nat.or_lt_two_pow (by omega) (by omega)
  exact IntWalk.i64_in _ (by omega)
 rw [e]
 have hm : (X ||| Y) % 2 ^ 3 = X % 2 ^ 3 ||| Y % 2 ^ 3 := Nat.or_mod_two_pow
 have e1 : X % 2 ^ 3 = 0 := by omega
 have e2 : Y % 2 ^ 3 = 0 := by omega
 rw [e1, e2] at hm
 simp at hm
 omega

set_option maxRecDepth 100000 in
set_option maxHeartbeats 1000000 in
theorem planRight_yes (s t i h : Int) (w : World) (H : PlanOk s t i h) :
  Calls Tryz.prog 102 #[.agg #[.int .i64 s, .int .i64 t, .int .i64 i, .int .i64 h]] w fun r w' => r = .returned (.bool true) ∧ Below w.heap.size w w' := by
 obtain ⟨s0, s1, t0, t1, i0, i1, h0, h1, i8, h8⟩ := H
 have ho := or8 i h i0 i1 h0 h1 i8 h8
 have b1 : inB s 1 8 = true := inB_t ⟨s0, s1⟩
 have b2 : inB t 1 4 = true := inB_t ⟨t0, t1⟩
 have b3 : inB i 0 2048 = true := inB_t ⟨i0, i1⟩
 have b4 : inB h 0 8192 = true := inB_t ⟨h0, h1⟩
 obtain ⟨z, hz⟩ : ∃ z, bits .or .i64 i h = z := ⟨_, rfl⟩
 rw [hz] at ho
 have hm : (z % 8 == 0) = true := by simpa using ho.1
 have hz0 := ho.2
 clear s0 s1 t0 t1 i0 i1 h0 h1 i8 h8 ho
 go_enter Tryz.func102, Tryz.ntmps102
 go_wp2_with (go_at_call 103; refine (within_any _ _ _ _).mono ?_; rintro r w1 ⟨rfl, rfl⟩; first | rw [b1] | rw [b2] | rw [b3] | rw [b4])
 go_ret
 exact ⟨rfl, by go_grown⟩

set_option maxRecDepth 100000 in
set_option maxHeartbeats 1000000 in
theorem planAt_any (s t i h part sc : Int) (w : World) (H : PlanOk s t i h) (hp : 0 ≤ part ∧ part ≤ 4) (hs : 0 ≤ sc ∧ sc ≤ s - 1) :
  Calls Tryz.prog 56 #[.agg #[.int .i64 s, .int .i64 t, .int .i64 i, .int .i64 h], .int .i64 part, .int .i64 sc] w fun r w' => r = .returned (.tuple #[.int .i64 (64 * sc + 8 * part), .int .i64 0]) ∧ Below w.heap.size w w' := by
 have s0 := H.s0
 have s1 := H.s1
 have b1 : inB part 0 4 = true := inB_t hp
 have b2 : inB sc 0 (s - 1) = true := inB_t hs
 obtain ⟨p0, p1⟩ := hp
 obtain ⟨c0, c1⟩ := hs
 rw [show 64 * sc + 8 * part = sc * 64 + part * 8 by omega]
 have HR := fun w => Lib.hid (planRight_yes s t i h w H)
 clear H
 go_enter Tryz.func56, Tryz.ntmps56
 go_upto_region 1 with fail
 refine one_row w _ _ ?_
 intro W hR hB
 obtain ⟨x0, x1, x2, x3, _⟩ := box4 hR
 have HRow := Lib.hid hR
 clear hR
 go_wp2_with fail
 refine (HR _).out.mono ?_
 rintro r w1 ⟨rfl, hb⟩
 clear x0 x1 x2 x3
 have hB1 := below_only hB hb
 obtain ⟨x0, x1, x2, x3, _⟩ := box4 (row_below HRow.out hb)
 clear hb hB HRow
 go_wp2_with (go_at_call 103; refine (within_any _ _ _ _).mono ?_; rintro r w1 ⟨rfl, rfl⟩; first | rw [b1] | rw [b2])
 go_ret2
 exact ⟨rfl, by go_grown⟩

set_option maxRecDepth 100000 in
set_option maxHeartbeats 1000000 in
theorem planImm_any (s t i h : Int) (w : World) (H : PlanOk s t i h) :
  Calls Tryz.prog 65 #[.agg #[.int .i64 s, .int .i64 t, .int .i64 i, .int .i64 h]] w fun r w' => r = .returned (.tuple #[.agg #[.int .i64 (64 * s), .int .i64 i], .int .i64 0]) ∧ Below w.heap.size w w' := by
 have s0 := H.s0
 have s1 := H.s1
 have HR := fun w => Lib.hid (planRight_yes s t i h w H)
 clear H
 rw [show 64 * s = s * 64 by omega]
 go_enter Tryz.func65, Tryz.ntmps65
 go_upto_region 1 with fail
 refine two_rows' w _ _ _ _ ?_
 intro W hR hQ hB
 obtain ⟨x0, x1, x2, x3, _⟩ := box4 hR
 have HRow := Lib.hid hR
 have HQ := Lib.hid hQ
 clear hR hQ
 go_wp2_with fail
 refine (HR _).out.mono ?_
 rintro r w1 ⟨rfl, hb⟩
 clear x0 x1 x2 x3
 have hB1 := below_only hB hb
 obtain ⟨x0, x1, x2, x3, _⟩ := box4 (row_below HRow.out hb)
 obtain ⟨y0, y1, y0f, y1f⟩ := box2 (row_below HQ.out hb)
 have zq := lt_of_heap (row_below HQ.out hb)
 clear hb hB HRow HQ
 go_wp2_with fail
 refine bodyPost_ret (by simp [results, Tryz.results65, go_sem, x0, x1, x2, x3, y0, y1]; rfl) rfl ?_
 exact ⟨rfl, by go_grown⟩

set_option maxRecDepth 100000 in
set_option maxHeartbeats 1000000 in
theorem planHeap_any (s t i h : Int) (w : World) (H : PlanOk s t i h) :
  Calls Tryz.prog 63 #[.agg #[.int .i64 s, .int .i64 t, .int .i64 i, .int .i64 h]] w fun r w' => r = .returned (.tuple #[.agg #[.int .i64 (64 * s + i), .int .i64 h], .int .i64 0]) ∧ Below w.heap.size w w' := by
 have s0 := H.s0
 have s1 := H.s1
 have i0 := H.i0
 have i1 := H.i1
 have HR := fun w => Lib.hid (planImm_any s t i h w H)
 clear H
 obtain ⟨z, hz⟩ : ∃ z, z = 64 * s := ⟨_, rfl⟩
 rw [← hz] at HR ⊢
 have z0 : 0 ≤ z := by omega
 have z1 : z ≤ 512 := by omega
 clear hz
 go_enter Tryz.func63, Tryz.ntmps63
 go_upto_region 1 with fail
 refine two_rows' w _ _ _ _ ?_
 intro W hR hQ hB
 obtain ⟨x0, x1, x2, x3, _⟩ := box4 hR
 have HRow := Lib.hid hR
 have HQ := Lib.hid hQ
 clear hR hQ
 go_wp2_with fail
 refine (HR _).out.mono ?_
 rintro r w1 ⟨rfl, hb⟩
 clear x0 x1 x2 x3
 have hB1 := below_only hB hb
 obtain ⟨x0, x1, x2, x3, _⟩ := box4 (row_below HRow.out hb)
 obtain ⟨y0, y1, y0f, y1f⟩ := box2 (row_below HQ.out hb)
 have zq := lt_of_heap (row_below HQ.out hb)
 have zr := lt_of_heap (row_below HRow.out hb)
 have HQ1 := Lib.hid (row_below HQ.out hb)
 clear hb hB HRow HQ
 go_wp2_with fail
 refine bodyPost_ret (results_cell_row_tmp (fn := Tryz.f63) rfl _ _ (w.heap.size + 1) 124 #[.int .i64 (z + i), .int .i64 h] (0, 0) _ rfl (row_alloc (row_two HQ1.out)) Tryz.underlying124 rfl infoExt2) rfl ?_
 exact ⟨rfl, by go_grown⟩

set_option maxRecDepth 100000 in
set_option maxHeartbeats 1000000 in
theorem planSize_any (s t i h : Int) (w : World) (H : PlanOk s t i h) :
  Calls Tryz.prog 61 #[.agg #[.int .i64 s, .int .i64 t, .int .i64 i, .int .i64 h]] w fun r w' => r = .returned (.tuple #[.int .i64 (64 * s + i + h), .int .i64 0]) ∧ Below w.heap.size w w' := by
 have s0 := H.s0
 have s1 := H.s1
 have i0 := H.i0
 have i1 := H.i1
 have h0 := H.h0
 have h1 := H.h1
 have HR := fun w => Lib.hid (planHeap_any s t i h w H)
 clear H
 obtain ⟨z, hz⟩ : ∃ z, z = 64 * s + i := ⟨_, rfl⟩
 rw [← hz] at HR ⊢
 have z0 : 0 ≤ z := by omega
 have z1 : z ≤ 5120 := by omega
 clear hz s0 s1 i0 i1
 go_enter Tryz.func61, Tryz.ntmps61
 go_wp2_with fail
 refine (HR _).out.mono ?_
 rintro r w1 ⟨rfl, hb⟩
 have hB : Below w.heap.size w w1 := below_only (by go_grown) hb
 have hbz := hB.size
 clear hb
 go_wp2_with fail
 go_ret2
 exact ⟨rfl, by go_grown⟩

set_option maxRecDepth 100000 in
theorem rplanAt_any (part sc : Int) (w : World) (hp : 0 ≤ part ∧ part ≤ 4) (hs : 0 ≤ sc ∧ sc ≤ 7) :
  Calls Tryz.prog 24 #[.int .i64 part, .int .i64 sc] w fun r w' => r = .returned (.int .i64 (64 * sc + 8 * part)) ∧ w' = w := by
 obtain ⟨p0, p1⟩ := hp
 obtain ⟨c0, c1⟩ := hs
 go_enter Tryz.func24, Tryz.ntmps24
 go_wp2
 go_ret
 exact ⟨rfl, rfl⟩

end Go.Proofs.YtbijaloeilnjoaaGreat
