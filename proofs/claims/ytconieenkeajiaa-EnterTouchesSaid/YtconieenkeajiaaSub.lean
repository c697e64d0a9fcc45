/- Words for sub-rows (a struct within a row, at an offset) and for small maps that are made on the spot. No program in sight. -/
import Derived.Test.YtconieenkeajiaaMore
import Derived.Test.YtconieenkeajiaaHeap
import Derived.MapKept
import Derived.Deep.Cut
import Derived.Deep.CutRange
import Derived.Deep.CutBlock
import Derived.Deep.QuietTactic
import Derived.BigQuiet
namespace Go.Proofs.Ytconieenkeajiaa
open Go.RowKit
set_option linter.unusedSimpArgs false

section
variable {P : Program}
theorem run_loadVar_sub (w : World) (g off : Nat) (t ty : TypeId) (cur cs : Array Value) (fr : Nat × Nat) (d : TypeDesc) (hg : w.heap[g]? = some (.cells cur t fr))
    (hc : ∀ j v, cs[j]? = some v → cur[off + j]? = some v)
    (hu : P.underlying ty = some d) (hd : (match d with | .struct _ | .array _ _ => true | _ => false) = true) (hi : (P.info? ty).map (·.size) = some cs.size) :
    (loadVar ty ⟨g, off, none⟩).run P w = .ok (.agg cs) w := by
  have hl : (loadCells ⟨g, off, none⟩ cs.toList.length).run P w = .ok cs.toList.toArray w :=
    run_loadCells_list (P := P) w ⟨g, off, none⟩ cs.toList (fun j v hv => by
      rw [add_mk, row_cell hg]
      exact hc j v (by simpa using hv))
  cases hq : P.info? ty with
  | none => simp [hq] at hi
  | some i =>
    have hs : i.size = cs.size := by simpa [hq] using hi
    have hagg : (isAgg ty).run P w = .ok true w := by
      unfold isAgg
      rw [Sem.run_bind, run_underlying hu w]
      cases d <;> simp_all
    simp only [Array.length_toList, Array.toArray_toList] at hl
    simp [loadVar, Sem.run_bind, hagg, sizeOf, typeInfo, hq, hs, hl]

theorem wp_load_sub {o : Oper} {a : Act} {w : World} {K : Act → World → Prop} {Q : Exit → Act → World → Prop} (ty : TypeId) (x : Operand) (ho : o.op = .load ty x)
    (g off : Nat) (hx : a.eval x = .pointer (some ⟨g, off, none⟩)) (t : TypeId) (cur cs : Array Value) (fr : Nat × Nat) (d : TypeDesc) (hg : w.heap[g]? = some (.cells cur t fr))
    (hc : ∀ j v, cs[j]? = some v → cur[off + j]? = some v)
    (hu : P.underlying ty = some d) (hd : (match d with | .struct _ | .array _ _ => true | _ => false) = true) (hi : (P.info? ty).map (·.size) = some cs.size)
    (h : K (a.put o.dst (.agg cs)) w) : o.wp P a w K Q := by
  unfold Oper.wp execOp
  simp only [ho, hx, Instr.loadAt, Instr.sureAddr, Sem.run_bind, Sem.run_pure, Result.andThen_ok, run_loadVar_sub w g off t ty cur cs fr d hg hc hu hd hi]
  exact h

theorem wpList_load_sub {ops : Array Oper} {rest : List Oper} {o : Oper} {a : Act} {w : World} {Q : Exit → Act → World → Prop} (hgd : o.guard = none) (ty : TypeId) (x : Operand) (ho : o.op = .load ty x)
    (g off : Nat) (hx : a.eval x = .pointer (some ⟨g, off, none⟩)) (t : TypeId) (cur cs : Array Value) (fr : Nat × Nat) (d : TypeDesc) (hg : w.heap[g]? = some (.cells cur t fr))
    (hc : ∀ j v, cs[j]? = some v → cur[off + j]? = some v)
    (hu : P.underlying ty = some d) (hd : (match d with | .struct _ | .array _ _ => true | _ => false) = true) (hi : (P.info? ty).map (·.size) = some cs.size)
    (h : wpList P ops Q rest (a.put o.dst (.agg cs)) w) : wpList P ops Q (o :: rest) a w :=
  wpList_plain hgd fun _ hK => wp_load_sub ty x ho g off hx t cur cs fr d hg hc hu hd hi (hK _ _ h)

/-- a row, from an offset on others -/
def subSet (cur : Array Value) (off : Nat) (cells : Array Value) : Array Value := (cur.toList.take off ++ cells.toList ++ cur.toList.drop (off + cells.size)).toArray
theorem run_storeVar_sub (w : World) (g off : Nat) (t ty : TypeId) (old cells : Array Value) (hg : w.heap[g]? = some (.cells old t (0, 0))) (hi : (P.info? ty).map (·.size) = some cells.size)
    (ho : off + cells.size ≤ old.size) (h1 : cells.all (·.oneCell') = true) :
    (storeVar ty ⟨g, off, none⟩ (.agg cells)).run P w = .ok () (w.setRow g (subSet old off cells)) := by
  have := run_storeCells_at P g off t cells.toList 0 old w hg (by simp; omega) (fun v hv => (Array.all_eq_true_iff_forall_mem.1 h1) v (by simpa using hv))
  cases hq : P.info? ty with
  | none => simp [hq] at hi
  | some i =>
    have hs : cells.size = i.size := by simp [hq] at hi; omega
    simp [storeVar, sizeOf, typeInfo, hq, Value.cells, hs, this, subSet]

theorem wp_store_sub {o : Oper} {a : Act} {w : World} {K : Act → World → Prop} {Q : Exit → Act → World → Prop} (ty : TypeId) (x y : Operand) (ho : o.op = .store ty x y)
    (g off : Nat) (cells : Array Value) (hx : a.eval x = .pointer (some ⟨g, off, none⟩)) (hy : a.eval y = .agg cells)
    (t : TypeId) (old : Array Value) (hg : w.heap[g]? = some (.cells old t (0, 0))) (hi : (P.info? ty).map (·.size) = some cells.size)
    (hold : off + cells.size ≤ old.size) (h1 : cells.all (·.oneCell') = true)
    (h : K (a.put o.dst undef) (w.setRow g (subSet old off cells))) : o.wp P a w K Q := by
  unfold Oper.wp execOp
  simp only [ho, hx, hy, Instr.storeAt, Instr.sureAddr, Sem.run_bind, Sem.run_pure, Result.andThen_ok, run_storeVar_sub w g off t ty old cells hg hi hold h1]
  exact h

theorem wpList_store_sub {ops : Array Oper} {rest : List Oper} {o : Oper} {a : Act} {w : World} {Q : Exit → Act → World → Prop} (hgd : o.guard = none) (ty : TypeId) (x y : Operand) (ho : o.op = .store ty x y)
    (g off : Nat) (cells : Array Value) (hx : a.eval x = .pointer (some ⟨g, off, none⟩)) (hy : a.eval y = .agg cells)
    (t : TypeId) (old : Array Value) (hg : w.heap[g]? = some (.cells old t (0, 0))) (hi : (P.info? ty).map (·.size) = some cells.size)
    (hold : off + cells.size ≤ old.size) (h1 : cells.all (·.oneCell') = true)
    (h : wpList P ops Q rest (a.put o.dst undef) (w.setRow g (subSet old off cells))) : wpList P ops Q (o :: rest) a w :=
  wpList_plain hgd fun _ hK => wp_store_sub ty x y ho g off cells hx hy t old hg hi hold h1 (hK _ _ h)

theorem subSet_size (cur : Array Value) (off : Nat) (cells : Array Value) (h : off + cells.size ≤ cur.size) : (subSet cur off cells).size = cur.size := by
  simp [subSet]; omega
theorem subSet_in (cur : Array Value) (off : Nat) (cells : Array Value) (h : off + cells.size ≤ cur.size) (j : Nat) (v : Value) (hj : cells[j]? = some v) : (subSet cur off cells)[off + j]? = some v := by
  have hl : j < cells.size := by
    rcases Nat.lt_or_ge j cells.size with h1 | h1
    · exact h1
    · rw [Array.getElem?_eq_none h1] at hj; cases hj
  have e : (cur.toList.take off).length = off := by simp; omega
  unfold subSet
  rw [List.getElem?_toArray, List.append_assoc, List.getElem?_append_right (by omega), e, Nat.add_sub_cancel_left, List.getElem?_append_left (by simpa using hl)]
  simpa using hj
theorem subSet_out (cur : Array Value) (off : Nat) (cells : Array Value) (h : off + cells.size ≤ cur.size) (j : Nat) (hj : j < off ∨ off + cells.size ≤ j) : (subSet cur off cells)[j]? = cur[j]? := by
  have e : (cur.toList.take off).length = off := by simp; omega
  unfold subSet
  rw [List.getElem?_toArray, List.append_assoc]
  rcases hj with hj | hj
  · rw [List.getElem?_append_left (by omega), List.getElem?_take, if_pos hj]
    simp
  · rw [List.getElem?_append_right (by omega), e, List.getElem?_append_right (by simp; omega), List.getElem?_drop]
    rw [show off + cells.size + (j - off - cells.toList.length) = j by simp; omega]
    simp
/-- rows of things of one width: one is stored -/
theorem flat_subSet {α : Type} (f : α → Array Value) (size : Nat) (hf : ∀ a, (f a).size = size) (l : List α) (k : Nat) (x : α) (hk : k < l.length) :
    subSet (l.flatMap fun a => (f a).toList).toArray (k * size) (f x) = ((l.set k x).flatMap fun a => (f a).toList).toArray := by
  have hf' : ∀ a, ((fun a => (f a).toList) a).length = size := fun a => by simp [hf]
  unfold subSet
  congr 1
  rw [hf, List.toList_toArray, ← flat_take _ size hf', show k * size + size = (k + 1) * size by rw [Nat.add_mul]; omega, ← flat_drop _ size hf', List.set_eq_take_append_cons_drop, if_pos hk, List.flatMap_append, List.flatMap_cons, List.append_assoc]

theorem one_row {P : World → Prop} (w : World) (c0 : Array Value) (t0 : TypeId) (h : ∀ W, W.heap[w.heap.size]? = some (.cells c0 t0 (0, 0)) → Below w.heap.size w W → P W) : P (w.alloc (.cells c0 t0)) :=
  h _ (row_new _ _ _) (by go_grown)
theorem two_rows' {P : World → Prop} (w : World) (c0 c1 : Array Value) (t0 t1 : TypeId) (h : ∀ W, W.heap[w.heap.size]? = some (.cells c0 t0 (0, 0)) → W.heap[w.heap.size + 1]? = some (.cells c1 t1 (0, 0)) → Below w.heap.size w W → P W) :
    P ((w.alloc (.cells c0 t0)).alloc (.cells c1 t1)) :=
  h _ (row_alloc (row_new _ _ _)) (heap_at (by simp)) (by go_grown)

theorem results_cell_row_tmp {fn : Func} {p u : Tmp} {ty : TypeId} (h : fn.results = #[.cell p ty, .tmp u]) (tmps : Array Value) (w : World) (g : Nat) (t : TypeId) (cs : Array Value) (fr : Nat × Nat) (d : TypeDesc)
    (hp : tmps.getD p undef = .pointer (some ⟨g, 0, none⟩)) (hg : w.heap[g]? = some (.cells cs t fr))
    (hu : P.underlying ty = some d) (hd : (match d with | .struct _ | .array _ _ => true | _ => false) = true) (hi : (P.info? ty).map (·.size) = some cs.size) :
    (results fn tmps).run P w = .ok (.tuple #[.agg cs, tmps.getD u undef]) w := by
  have hp' : tmps[p]?.getD undef = .pointer (some ⟨g, 0, none⟩) := by simpa using hp
  simp [results, h, hp', asAddr, run_loadVar_row w g t ty cs fr d hg hu hd hi]

/- a map of two entries, made on the spot: numbers to whatever -/
theorem wpList_makeMap {ops : Array Oper} {rest : List Oper} {o : Oper} {a : Act} {w : World} {Q : Exit → Act → World → Prop} (hgd : o.guard = none) (t : TypeId) (ho : o.op = .makeMap t none)
    (h : wpList P ops Q rest (a.put o.dst (.map (some w.heap.size))) (w.alloc (.map #[] 0))) : wpList P ops Q (o :: rest) a w := by
  refine wpList_plain hgd fun K hK => ?_
  unfold Oper.wp execOp
  simp only [ho, Instr.makeMap, Sem.run_bind, Sem.run_pure, Result.andThen_ok, Option.map_none]
  exact hK _ _ h
theorem wpList_insert {ops : Array Oper} {rest : List Oper} {o : Oper} {a : Act} {w : World} {Q : Exit → Act → World → Prop} (hgd : o.guard = none) (t : TypeId) (m x v : Operand) (ho : o.op = .insert t m x v)
    (kt et : TypeId) (hm : P.underlying t = some (.map kt et)) (hd : P.underlying kt = some (.int .i64)) (b : Nat) (k : Int) (val : Value) (es : Array MapEntry) (clock : Nat)
    (e1 : a.eval m = .map (some b)) (e2 : a.eval x = .int .i64 k) (e3 : a.eval v = val) (hb : w.heap[b]? = some (.map es clock)) (hf : Instr.findNow (.int .i64) (.int .i64 k) es.toList 0 = some none)
    (h : ∀ w', w'.heap[b]? = some (.map (es.push { key := .int .i64 k, val := val, born := clock }) (clock + 1)) → w.grownBy w' (some b) → wpList P ops Q rest (a.put o.dst undef) w') : wpList P ops Q (o :: rest) a w := by
  refine wpList_plain hgd fun K hK => ?_
  have hrun : (Instr.mapUpdate t (.map (some b)) (.int .i64 k) val).run P w = .ok () { w with heap := w.heap.setIfInBounds b (.map (es.push { key := .int .i64 k, val := val, born := clock }) (clock + 1)) } := by
    unfold Instr.mapUpdate
    simp only [Sem.run_bind, run_underlying hm, Result.andThen_ok, MapKept.run_getObj_map hb, MapKept.run_checkKey hd (k := .int .i64 k) (by simp [MapKept.IsKey]), MapKept.run_findKey hd hf, MapKept.run_setObj_map _ hb]
  unfold Oper.wp execOp
  simp only [ho, e1, e2, e3, hrun, Sem.run_bind, Sem.run_pure, Result.andThen_ok]
  refine hK _ _ (h _ (MapKept.heap_set hb).1 ⟨rfl, rfl, rfl, by simp, fun i _ hi => (MapKept.heap_set hb).2 i (fun e => hi (by rw [e]))⟩)
theorem wpList_lookup_now {ops : Array Oper} {rest : List Oper} {o : Oper} {a : Act} {w : World} {Q : Exit → Act → World → Prop} (hgd : o.guard = none) (t : TypeId) (m x : Operand) (ho : o.op = .lookup t m x true)
    (kt et : TypeId) (hm : P.underlying t = some (.map kt et)) (hd : P.underlying kt = some (.int .i64)) (b : Nat) (k : Int) (es : Array MapEntry) (clock : Nat)
    (e1 : a.eval m = .map (some b)) (e2 : a.eval x = .int .i64 k) (hb : w.heap[b]? = some (.map es clock)) (i : Nat) (v : Value) (hf : Instr.findNow (.int .i64) (.int .i64 k) es.toList 0 = some (some (i, v)))
    (h : wpList P ops Q rest (a.put o.dst (.tuple #[v, .bool true])) w) : wpList P ops Q (o :: rest) a w := by
  refine wpList_plain hgd fun K hK => ?_
  have hrun : (Instr.lookup t (.map (some b)) (.int .i64 k) true).run P w = .ok (.tuple #[v, .bool true]) w := by
    unfold Instr.lookup
    simp only [Sem.run_bind, Sem.run_pure, run_underlying hm, Result.andThen_ok, MapKept.run_getObj_map hb, MapKept.run_checkKey hd (k := .int .i64 k) (by simp [MapKept.IsKey]), MapKept.run_findKey hd hf]
    simp
  unfold Oper.wp execOp
  simp only [ho, e1, e2, hrun, Sem.run_bind, Sem.run_pure, Result.andThen_ok]
  exact hK _ _ h
end
end Go.Proofs.Ytconieenkeajiaa
