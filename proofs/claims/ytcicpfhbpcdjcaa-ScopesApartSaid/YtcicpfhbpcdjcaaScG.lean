/- The walk of the laws' 'seen': what all scopes are, and have, in one value of 48 cells; two such are held against each other. -/
import Derived.Test.YtcicpfhbpcdjcaaScF
import Derived.Deep.WholeRow
import Derived.ChangeKeysEq
namespace Go.Proofs.Ytcicpfhbpcdjcaa
open Go.RowKit

def padC (l : List Sc) : List Ctl := l.map (·.c) ++ List.replicate (8 - l.length) noCtl
def padX (l : List Sc) : List Ext := l.map (·.x) ++ List.replicate (8 - l.length) (0, 0)
theorem padC_len {l : List Sc} (h : l.length ≤ 8) : (padC l).length = 8 := by simp [padC]; omega
theorem padX_len {l : List Sc} (h : l.length ≤ 8) : (padX l).length = 8 := by simp [padX]; omega
theorem padC_get {l : List Sc} {k : Nat} {s : Sc} (h : l[k]? = some s) : (padC l)[k]? = some s.c := by
  have hk := (List.getElem?_eq_some_iff.1 h).1
  rw [padC, List.getElem?_append_left (by simpa using hk), List.getElem?_map, h]; rfl
theorem padX_get {l : List Sc} {k : Nat} {s : Sc} (h : l[k]? = some s) : (padX l)[k]? = some s.x := by
  have hk := (List.getElem?_eq_some_iff.1 h).1
  rw [padX, List.getElem?_append_left (by simpa using hk), List.getElem?_map, h]; rfl
def allCells (Cs : List Ctl) (Xs : List Ext) : List Value := Cs.flatMap Ctl.cells ++ Xs.flatMap extCells
def seenA (l : List Sc) : Array Value := (allCells (padC l) (padX l)).toArray
def ZAll : Array Value := seenA []
theorem ctls_len (l : List Ctl) : (l.flatMap Ctl.cells).length = l.length * 4 := flat_length Ctl.cells 4 (fun _ => rfl) l
theorem all_len {Cs : List Ctl} {Xs : List Ext} (h : Cs.length = 8) (h2 : Xs.length = 8) : (allCells Cs Xs).length = 48 := by
  rw [allCells, List.length_append, ctls_len, exts_len, h, h2]
theorem seen_size {l : List Sc} (h : l.length ≤ 8) : (seenA l).size = 48 := by
  rw [seenA, List.size_toArray, all_len (padC_len h) (padX_len h)]

theorem zeroAll (w : World) : (zeroValue 56).run Try.prog w = .ok (.agg ZAll) w := by kernel_rfl
theorem infoAll : (Try.prog.info? 56).map (·.size) = some 48 := by kernel_rfl
theorem buildAll (w : World) : (Instr.build 56 #[]).run Try.prog w = .ok (.agg ZAll) w := by kernel_rfl
theorem allocAll (w : World) : (Instr.alloc 56 true (.tuple #[])).run Try.prog w = .ok (.pointer (some ⟨w.heap.size, 0, none⟩)) (w.alloc (.cells ZAll 56)) := by kernel_rfl
theorem undAll : Try.prog.underlying 56 = some (.struct (Try.prog.fieldsOf 56)) := by kernel_rfl
theorem sizeAll : ZAll.size = 48 := seen_size (by simp)
theorem oneAll : ZAll.all (·.oneCell') = true := by kernel_rfl

theorem wpList_zeroAll {w : World} {ops : Array Oper} {rest : List Oper} {o1 o2 o3 : Oper} {a : Act} {Q : Exit → Act → World → Prop} (x y : Tmp) (g1 : o1.guard = none) (g2 : o2.guard = none) (g3 : o3.guard = none)
    (h1 : o1.op = .build 56 #[]) (h2 : o2.op = .alloc 56) (h3 : o3.op = .store 56 (.tmp x) (.tmp y))
    (d3 : o3.dst = none)
    (e1 : ((a.put o1.dst (.agg ZAll)).put o2.dst (.pointer (some ⟨w.heap.size, 0, none⟩))).eval (.tmp x) = .pointer (some ⟨w.heap.size, 0, none⟩))
    (e2 : ((a.put o1.dst (.agg ZAll)).put o2.dst (.pointer (some ⟨w.heap.size, 0, none⟩))).eval (.tmp y) = .agg ZAll)
    (h : wpList Try.prog ops Q rest ((a.put o1.dst (.agg ZAll)).put o2.dst (.pointer (some ⟨w.heap.size, 0, none⟩))) (w.alloc (.cells ZAll 56))) :
    wpList Try.prog ops Q (o1 :: o2 :: o3 :: rest) a w := by
  refine wpList_plain g1 fun K hK => ?_
  unfold Oper.wp execOp
  simp only [h1, Array.map_empty, buildAll, Sem.run_bind, Sem.run_pure, Result.andThen_ok]
  refine hK _ _ (wpList_plain g2 fun K hK => ?_)
  unfold Oper.wp execOp
  simp only [h2, allocAll, Sem.run_bind, Sem.run_pure, Result.andThen_ok]
  refine hK _ _ (wpList_plain g3 fun K hK => ?_)
  have hst := run_storeAt_new (P := Try.prog) w 56 ZAll ZAll (by rw [sizeAll]; exact infoAll) rfl oneAll
  unfold Oper.wp execOp
  simp only [h3, e1, e2, hst, Sem.run_bind, Sem.run_pure, Result.andThen_ok]
  exact hK _ _ (by rw [d3]; exact h)
theorem wpList_allocAll {w : World} {ops : Array Oper} {rest : List Oper} {o2 : Oper} {a : Act} {Q : Exit → Act → World → Prop} (g2 : o2.guard = none) (h2 : o2.op = .alloc 56)
    (h : wpList Try.prog ops Q rest (a.put o2.dst (.pointer (some ⟨w.heap.size, 0, none⟩))) (w.alloc (.cells ZAll 56))) :
    wpList Try.prog ops Q (o2 :: rest) a w := by
  refine wpList_plain g2 fun K hK => ?_
  unfold Oper.wp execOp
  simp only [h2, allocAll, Sem.run_bind, Sem.run_pure, Result.andThen_ok]
  exact hK _ _ h

theorem set4 (P R : List Value) (a b c d u v x y : Value) : ((((P ++ (a :: b :: c :: d :: R)).toArray.setIfInBounds P.length u).setIfInBounds (P.length + 1) v).setIfInBounds (P.length + 2) x).setIfInBounds (P.length + 3) y = (P ++ (u :: v :: x :: y :: R)).toArray := by
  apply Array.ext'
  simp
theorem set2 (P R : List Value) (a b u v : Value) : ((P ++ (a :: b :: R)).toArray.setIfInBounds P.length u).setIfInBounds (P.length + 1) v = (P ++ (u :: v :: R)).toArray := by
  apply Array.ext'
  simp

theorem all_partC {Cs : List Ctl} {Xs : List Ext} {k : Nat} {c : Ctl} (h : Cs[k]? = some c) : ∃ P R, P.length = k * 4 ∧ allCells Cs Xs = P ++ (.int .i64 c.st :: .int .i64 c.n :: .int .i64 c.p :: .int .i64 c.ep :: R) ∧ ∀ d : Ctl, allCells (Cs.set k d) Xs = P ++ (.int .i64 d.st :: .int .i64 d.n :: .int .i64 d.p :: .int .i64 d.ep :: R) := by
  have hk := (List.getElem?_eq_some_iff.1 h).1
  refine ⟨(Cs.take k).flatMap Ctl.cells, (Cs.drop (k + 1)).flatMap Ctl.cells ++ Xs.flatMap extCells, ?_, ?_, fun d => ?_⟩
  · rw [ctls_len, List.length_take, Nat.min_eq_left (Nat.le_of_lt hk)]
  · rw [allCells]
    conv => lhs; rw [parted h]
    simp [List.flatMap_append]
  · rw [allCells, List.set_eq_take_append_cons_drop, if_pos hk]
    simp [List.flatMap_append]
theorem all_partX {Cs : List Ctl} {Xs : List Ext} {k : Nat} {x : Ext} (hC : Cs.length = 8) (h : Xs[k]? = some x) : ∃ P R, P.length = 32 + k * 2 ∧ allCells Cs Xs = P ++ (.int .i64 x.1 :: .int .i64 x.2 :: R) ∧ ∀ y : Ext, allCells Cs (Xs.set k y) = P ++ (.int .i64 y.1 :: .int .i64 y.2 :: R) := by
  have hk := (List.getElem?_eq_some_iff.1 h).1
  refine ⟨Cs.flatMap Ctl.cells ++ (Xs.take k).flatMap extCells, (Xs.drop (k + 1)).flatMap extCells, ?_, ?_, fun d => ?_⟩
  · rw [List.length_append, ctls_len, exts_len, List.length_take, Nat.min_eq_left (Nat.le_of_lt hk), hC]
  · rw [allCells]
    conv => lhs; rw [parted h]
    simp [List.flatMap_append, extCells]
  · rw [allCells, List.set_eq_take_append_cons_drop, if_pos hk]
    simp [List.flatMap_append, extCells]

abbrev AllRow (w : World) (A : Nat) (Cs : List Ctl) (Xs : List Ext) : Prop := w.heap[A]? = some (.cells (allCells Cs Xs).toArray 56 (0, 0))
theorem all_cellsC {w : World} {A : Nat} {Cs : List Ctl} {Xs : List Ext} (h : AllRow w A Cs Xs) {k : Nat} {c : Ctl} (hc : Cs[k]? = some c) :
    w.cell? ⟨A, k * 4, none⟩ = some (.int .i64 c.st) ∧ w.cell? ⟨A, k * 4 + 1, none⟩ = some (.int .i64 c.n) ∧ w.cell? ⟨A, k * 4 + 2, none⟩ = some (.int .i64 c.p) ∧ w.cell? ⟨A, k * 4 + 3, none⟩ = some (.int .i64 c.ep) := by
  obtain ⟨P, R, hP, hA, _⟩ := all_partC (Xs := Xs) hc
  simp only [AllRow, hA] at h
  refine ⟨?_, ?_, ?_, ?_⟩ <;> rw [row_cell h] <;> simp [← hP]
theorem all_cellsX {w : World} {A : Nat} {Cs : List Ctl} {Xs : List Ext} (hC : Cs.length = 8) (h : AllRow w A Cs Xs) {k : Nat} {x : Ext} (hx : Xs[k]? = some x) :
    w.cell? ⟨A, 32 + k * 2, none⟩ = some (.int .i64 x.1) ∧ w.cell? ⟨A, 32 + k * 2 + 1, none⟩ = some (.int .i64 x.2) := by
  obtain ⟨P, R, hP, hA, _⟩ := all_partX hC hx
  simp only [AllRow, hA] at h
  refine ⟨?_, ?_⟩ <;> rw [row_cell h] <;> simp [← hP]
theorem all_storeC {w : World} {A : Nat} {Cs : List Ctl} {Xs : List Ext} (h : AllRow w A Cs Xs) {k : Nat} {c : Ctl} (hc : Cs[k]? = some c) (d : Ctl) :
    AllRow ((((w.setCell ⟨A, k * 4, none⟩ (.int .i64 d.st)).setCell ⟨A, k * 4 + 1, none⟩ (.int .i64 d.n)).setCell ⟨A, k * 4 + 2, none⟩ (.int .i64 d.p)).setCell ⟨A, k * 4 + 3, none⟩ (.int .i64 d.ep)) A (Cs.set k d) Xs := by
  obtain ⟨P, R, hP, hA, hD⟩ := all_partC (Xs := Xs) hc
  simp only [AllRow, hA] at h
  have := row_set (i := k * 4 + 3) (row_set (i := k * 4 + 2) (row_set (i := k * 4 + 1) (row_set (i := k * 4) h (.int .i64 d.st)) (.int .i64 d.n)) (.int .i64 d.p)) (.int .i64 d.ep)
  rw [← hP, set4] at this
  simp only [AllRow, hD d, ← hP]
  exact this
theorem all_storeX {w : World} {A : Nat} {Cs : List Ctl} {Xs : List Ext} (hC : Cs.length = 8) (h : AllRow w A Cs Xs) {k : Nat} {x : Ext} (hx : Xs[k]? = some x) (y : Ext) :
    AllRow ((w.setCell ⟨A, 32 + k * 2, none⟩ (.int .i64 y.1)).setCell ⟨A, 32 + k * 2 + 1, none⟩ (.int .i64 y.2)) A Cs (Xs.set k y) := by
  obtain ⟨P, R, hP, hA, hD⟩ := all_partX hC hx
  simp only [AllRow, hA] at h
  have := row_set (i := 32 + k * 2 + 1) (row_set (i := 32 + k * 2) h (.int .i64 y.1)) (.int .i64 y.2)
  rw [← hP, set2] at this
  simp only [AllRow, hD y, ← hP]
  exact this

/-- a value of all is as itself -/
theorem items_refl {P : Program} (w : World) (d : Nat) (e : TypeId) (c : Nat) (xs : Array Value) (is : List Nat) (h : ∀ i ∈ is, ∃ v, (part e xs (i * c)).run P w = .ok v w ∧ (Op.equalIn d e v v).run P w = .ok true w) :
    (Op.eqItems d e c xs xs is).run P w = .ok true w := by
  induction is with
  | nil => simp [Op.eqItems]
  | cons i is ih =>
    obtain ⟨v, h1, h2⟩ := h i (by simp)
    simp only [Op.eqItems, Sem.run_bind, h1, h2, Result.andThen_ok]
    simpa using ih (fun j hj => h j (by simp [hj]))

theorem aggCtl (w : World) : (isAgg 43).run Try.prog w = .ok true w := by kernel_rfl
theorem aggExt (w : World) : (isAgg 32).run Try.prog w = .ok true w := by kernel_rfl
theorem agg8C (w : World) : (isAgg 53).run Try.prog w = .ok true w := by kernel_rfl
theorem agg8X (w : World) : (isAgg 54).run Try.prog w = .ok true w := by kernel_rfl
theorem sizeCtl (w : World) : (sizeOf 43).run Try.prog w = .ok 4 w := by kernel_rfl
theorem sizeExt (w : World) : (sizeOf 32).run Try.prog w = .ok 2 w := by kernel_rfl
theorem size8C (w : World) : (sizeOf 53).run Try.prog w = .ok 32 w := by kernel_rfl
theorem size8X (w : World) : (sizeOf 54).run Try.prog w = .ok 16 w := by kernel_rfl
theorem cellsCtl : Try.prog.cellsOf 43 = 4 := by kernel_rfl
theorem cellsExt : Try.prog.cellsOf 32 = 2 := by kernel_rfl
theorem eqCtl_refl (d : Nat) (c : Ctl) (w : World) : (Op.equalIn (d + 2) 43 c.val c.val).run Try.prog w = .ok true w := by
  rw [run_ctlEq]
  simp [ctlEq]
theorem eqExt_refl (d : Nat) (x : Ext) (w : World) : (Op.equalIn (d + 2) 32 (.agg #[.int .i64 x.1, .int .i64 x.2]) (.agg #[.int .i64 x.1, .int .i64 x.2])).run Try.prog w = .ok true w := by
  rw [run_equalIn_agg _ _ _ _ _ undExt stoodExt]
  simp [Op.eqFields, go_sem, intEql]
theorem extract_flat {α : Type} (f : α → List Value) (n : Nat) (hf : ∀ a, (f a).length = n) (l : List α) (k : Nat) (a : α) (h : l[k]? = some a) : (l.flatMap f).toArray.extract (k * n) (k * n + n) = (f a).toArray := by
  have hk := (List.getElem?_eq_some_iff.1 h).1
  have h1 : ((l.take k).flatMap f).length = k * n := by rw [flat_length f n hf, List.length_take, Nat.min_eq_left (Nat.le_of_lt hk)]
  conv => lhs; rw [parted h]
  rw [List.flatMap_append, List.flatMap_cons]
  simp only [List.extract_toArray, List.extract_eq_take_drop]
  rw [List.drop_append_of_le_length (by omega), List.drop_eq_nil_of_le (by omega), List.nil_append, show k * n + n - k * n = (f a).length by rw [hf]; omega, List.take_left']
  rfl
theorem undA8C : Try.prog.underlying 53 = some (.array 8 43) := by kernel_rfl
theorem undA8X : Try.prog.underlying 54 = some (.array 8 32) := by kernel_rfl
theorem eq8C (d : Nat) (Cs : List Ctl) (hC : Cs.length = 8) (w : World) : (Op.equalIn (d + 3) 53 (.agg (Cs.flatMap Ctl.cells).toArray) (.agg (Cs.flatMap Ctl.cells).toArray)).run Try.prog w = .ok true w := by
  have hi : (Try.prog.info? 43).isSome = true := by kernel_rfl
  obtain ⟨i, hi⟩ := Option.isSome_iff_exists.1 hi
  rw [run_equalIn_array w (d + 2) _ _ undA8C hi, cellsCtl]
  refine items_refl w _ _ _ _ _ (fun j hj => ?_)
  obtain ⟨c, hc⟩ : ∃ c, Cs[j]? = some c := ⟨_, List.getElem?_eq_getElem (by rw [hC]; simpa using hj)⟩
  refine ⟨c.val, ?_, eqCtl_refl d c w⟩
  have := extract_flat Ctl.cells 4 (fun _ => rfl) Cs j c hc
  simp only [part, Sem.run_bind, aggCtl, Result.andThen_ok, if_true, sizeCtl, Sem.run_pure, this]
theorem eq8X (d : Nat) (Xs : List Ext) (hX : Xs.length = 8) (w : World) : (Op.equalIn (d + 3) 54 (.agg (Xs.flatMap extCells).toArray) (.agg (Xs.flatMap extCells).toArray)).run Try.prog w = .ok true w := by
  have hi : (Try.prog.info? 32).isSome = true := by kernel_rfl
  obtain ⟨i, hi⟩ := Option.isSome_iff_exists.1 hi
  rw [run_equalIn_array w (d + 2) _ _ undA8X hi, cellsExt]
  refine items_refl w _ _ _ _ _ (fun j hj => ?_)
  obtain ⟨c, hc⟩ : ∃ c, Xs[j]? = some c := ⟨_, List.getElem?_eq_getElem (by rw [hX]; simpa using hj)⟩
  refine ⟨.agg #[.int .i64 c.1, .int .i64 c.2], ?_, eqExt_refl d c w⟩
  have := extract_flat extCells 2 (fun _ => rfl) Xs j c hc
  simp only [part, Sem.run_bind, aggExt, Result.andThen_ok, if_true, sizeExt, Sem.run_pure, this]
  rfl
theorem stoodAll : Try.prog.stoodInHeld 56 = false := by kernel_rfl
@[go_sem] theorem eqgAll : Try.prog.eqGuardType Try.prog.depth 56 = false := by kernel_rfl
theorem fieldsAll : (Try.prog.fieldsOf 56).toList.map (fun f => (f.name != "_", f.type, f.offset)) = [(true, 53, 0), (true, 54, 32)] := by kernel_rfl
theorem eqAll_refl (Cs : List Ctl) (Xs : List Ext) (hC : Cs.length = 8) (hX : Xs.length = 8) (w : World) : (Op.equalIn 10000 56 (.agg (allCells Cs Xs).toArray) (.agg (allCells Cs Xs).toArray)).run Try.prog w = .ok true w := by
  rw [show (10000 : Nat) = 9999 + 1 from rfl, run_equalIn_agg _ _ _ _ _ undAll stoodAll]
  have hf := fieldsAll
  generalize (Try.prog.fieldsOf 56).toList = fs at hf
  have hl : fs.length = 2 := by simpa using congrArg List.length hf
  obtain ⟨f1, f2, rfl⟩ : ∃ f1 f2, fs = [f1, f2] := by
    match fs, hl with
    | [a, b], _ => exact ⟨a, b, rfl⟩
  simp only [List.map_cons, List.map_nil, List.cons.injEq, Prod.mk.injEq, and_true] at hf
  obtain ⟨⟨n1, t1, o1⟩, n2, t2, o2⟩ := hf
  have l1 : (Cs.flatMap Ctl.cells).length = 32 := by rw [ctls_len, hC]
  have l2 : (Xs.flatMap extCells).length = 16 := by rw [exts_len, hX]
  have e1 : (allCells Cs Xs).toArray.extract 0 32 = (Cs.flatMap Ctl.cells).toArray := by
    simp only [allCells, List.extract_toArray, List.extract_eq_take_drop, Nat.sub_zero, List.drop_zero]
    rw [← l1, List.take_left']
    rfl
  have e2 : (allCells Cs Xs).toArray.extract 32 48 = (Xs.flatMap extCells).toArray := by
    simp only [allCells, List.extract_toArray, List.extract_eq_take_drop]
    rw [← l1, List.drop_left' rfl, l1, List.take_of_length_le (by rw [l2]; decide)]
  have p1 : (part 53 (allCells Cs Xs).toArray 0).run Try.prog w = .ok (.agg (Cs.flatMap Ctl.cells).toArray) w := by
    simp only [part, Sem.run_bind, agg8C, Result.andThen_ok, if_true, size8C, Sem.run_pure, Nat.zero_add, e1]
  have p2 : (part 54 (allCells Cs Xs).toArray 32).run Try.prog w = .ok (.agg (Xs.flatMap extCells).toArray) w := by
    simp only [part, Sem.run_bind, agg8X, Result.andThen_ok, if_true, size8X, Sem.run_pure, Nat.reduceAdd, e2]
  have m1 : f1.name ≠ "_" := by simpa using n1
  have m2 : f2.name ≠ "_" := by simpa using n2
  simp only [Op.eqFields, if_pos m1, if_pos m2, Sem.run_bind, t1, t2, o1, o2, p1, Result.andThen_ok, eq8C 9996 Cs hC w]
  simp [p2, eq8X 9996 Xs hX w]

@[go_sem high] theorem neqAll_refl (l : List Sc) (h : l.length ≤ 8) (w : World) : (binOp .neq 56 (.agg (seenA l)) (.agg (seenA l))).run Try.prog w = .ok (.bool false) w := by
  rw [run_neq_struct, seenA, eqAll_refl _ _ (padC_len h) (padX_len h)]
  rfl
@[go_sem high] theorem eqlAll_refl (l : List Sc) (h : l.length ≤ 8) (w : World) : (binOp .eql 56 (.agg (seenA l)) (.agg (seenA l))).run Try.prog w = .ok (.bool true) w := by
  rw [run_eql_struct, seenA, eqAll_refl _ _ (padC_len h) (padX_len h)]
  rfl
theorem seen_one (l : List Sc) : (seenA l).all (·.oneCell') = true := by
  rw [Array.all_eq_true_iff_forall_mem]
  intro v hv
  simp only [seenA, allCells, List.mem_toArray, List.mem_append, List.mem_flatMap] at hv
  rcases hv with ⟨c, _, hv⟩ | ⟨x, _, hv⟩
  · simp only [List.mem_cons, List.not_mem_nil, or_false] at hv
    rcases hv with rfl | rfl | rfl | rfl <;> rfl
  · simp only [extCells, List.mem_cons, List.not_mem_nil, or_false] at hv
    rcases hv with rfl | rfl <;> rfl

set_option maxRecDepth 100000 in
set_option maxHeartbeats 2000000 in
theorem seen_any (B p b g : Nat) (q : Option Nat) (f e : Int) (S : Sco) (P : Pln) (w : World) (h : Scs B w p b g q f e S) (hP : P.s = (S.l.length : Nat)) :
    Calls Try.prog 22 #[.pointer (some ⟨p, 0, none⟩), P.val] w fun r w' => r = .returned (.agg (seenA S.l)) ∧ Below w.heap.size w w' := by
  obtain ⟨s, t, i, m⟩ := P
  dsimp only at hP
  subst hP
  have n1 := h.n1
  have n8 := h.n8
  have H := Lib.hid h
  clear h
  go_enter Try.func22, Try.ntmps22
  go_wp2_with (first | refine wpList_zeroAll 5 7 rfl rfl rfl rfl rfl rfl rfl (by rfl) (by rfl) ?_ | refine wpList_allocAll rfl rfl ?_)
  have hB0 : Below w.heap.size w (((w.alloc (.cells #[.int .i64 S.l.length, .int .i64 t, .int .i64 i, .int .i64 m] 23)).alloc (.cells ZAll 56)).alloc (.cells ZAll 56)) := by go_grown
  have hR0 : (((w.alloc (.cells #[.int .i64 S.l.length, .int .i64 t, .int .i64 i, .int .i64 m] 23)).alloc (.cells ZAll 56)).alloc (.cells ZAll 56)).heap[w.heap.size]? = some (.cells #[.int .i64 S.l.length, .int .i64 t, .int .i64 i, .int .i64 m] 23 (0, 0)) := row_alloc (row_alloc (row_new _ _ _))
  have hR1 : (((w.alloc (.cells #[.int .i64 S.l.length, .int .i64 t, .int .i64 i, .int .i64 m] 23)).alloc (.cells ZAll 56)).alloc (.cells ZAll 56)).heap[w.heap.size + 1]? = some (.cells ZAll 56 (0, 0)) := row_alloc (heap_at (by simp))
  have hR2 : AllRow (((w.alloc (.cells #[.int .i64 S.l.length, .int .i64 t, .int .i64 i, .int .i64 m] 23)).alloc (.cells ZAll 56)).alloc (.cells ZAll 56)) (w.heap.size + 1 + 1) (padC []) (padX []) := heap_at (by simp)
  have hS0 := H.out.below hB0
  generalize (((w.alloc (.cells #[.int .i64 S.l.length, .int .i64 t, .int .i64 i, .int .i64 m] 23)).alloc (.cells ZAll 56)).alloc (.cells ZAll 56)) = w0 at hB0 hR0 hR1 hR2 hS0 ⊢
  have hw0 := lt_of_heap hR2
  obtain ⟨fp, fb, fg, fq⟩ := H.out.free (k := w.heap.size + 1 + 1) (by omega)
  have HB0 := Lib.hid hB0
  have HR0 := Lib.hid hR0
  have HR1 := Lib.hid hR1
  have HR2 := Lib.hid hR2
  have HS0 := Lib.hid hS0
  clear hB0 hR0 hR1 hR2 hS0
  go_loopw [6] (fun t wr => ∃ (k : Nat) (Cs : List Ctl) (Xs : List Ext), k ≤ S.l.length ∧ t = .int .i64 k ∧ Cs.length = 8 ∧ Xs.length = 8 ∧ (∀ j s, j < k → S.l[j]? = some s → Cs[j]? = some s.c ∧ Xs[j]? = some s.x) ∧ (∀ j, k ≤ j → j < 8 → Cs[j]? = some noCtl ∧ Xs[j]? = some (0, 0)) ∧ AllRow wr (w.heap.size + 1 + 1) Cs Xs ∧ Keep [w.heap.size + 1 + 1] w0 wr)
    (fun t _ => S.l.length - (intOf t).toNat)
  case atStart =>
    refine ⟨0, padC [], padX [], Nat.zero_le _, rfl, rfl, rfl, fun j s hj => by omega, fun j _ h => ?_, HR2.out, Keep.refl _ _⟩
    show (List.replicate 8 noCtl)[j]? = some noCtl ∧ (List.replicate 8 ((0 : Int), (0 : Int)))[j]? = some (0, 0)
    rw [List.getElem?_replicate, List.getElem?_replicate, if_pos h, if_pos h]
    exact ⟨rfl, rfl⟩
  case round =>
    obtain ⟨k, Cs, Xs, hk, rfl, hC, hX, hold, hnew, hrow, hkeep⟩ := hrel
    have HC := Lib.hid hC
    have HX := Lib.hid hX
    have Hold := Lib.hid hold
    have Hnew := Lib.hid hnew
    have Hrow := Lib.hid hrow
    have HKp := Lib.hid hkeep
    have HS := Lib.hid (HS0.out.kept hkeep (by simp; omega) (by simp; omega) (by simp; omega) (fun i hi => by simp only [List.mem_cons, List.not_mem_nil, or_false]; rintro rfl; exact fq hi))
    have hPl := Lib.hid (hkeep.row HR0.out (by simp; omega))
    have hwr := hkeep.size
    clear hC hX hold hnew hrow hkeep
    obtain ⟨p0, p1, p2, p3, _, _, _, _⟩ := box4 hPl.out
    by_cases hlt : k < S.l.length
    · obtain ⟨s, hs⟩ : ∃ s, S.l[k]? = some s := ⟨_, List.getElem?_eq_getElem hlt⟩
      have hk8 : (k : Int) < 8 := by omega
      have hin : inS k 0 S = true := by simp only [inS, inB, decide_eq_true_eq]; omega
      have hc : ctlS k S = (s.c, 0) := by unfold ctlS; rw [if_neg (by rw [hin]; simp), Int.toNat_natCast, hs]
      have hx : extS k S = (s.x, 0) := by unfold extS; rw [if_neg (by rw [hin]; simp), Int.toNat_natCast, hs]
      have Hc := Lib.hid hc
      have Hx := Lib.hid hx
      have Hs := Lib.hid hs
      obtain ⟨hn1, hn2⟩ := Hnew.out k (Nat.le_refl _) (by omega)
      have Hn1 := Lib.hid hn1
      have Hn2 := Lib.hid hn2
      clear hin hc hx hs hn1 hn2
      go_wp2_with fail
      refine (ctl_any B p b g q f e S k _ HS.out).mono ?_
      rintro r w1 ⟨rfl, hb1⟩
      rw [Hc.out]
      have Hrow1 := Lib.hid (row_below Hrow.out hb1)
      have HK1 := Lib.hid (HKp.out.call hb1)
      have HS1 := Lib.hid (HS.out.below hb1)
      have hlt1 := lt_of_heap Hrow1.out
      obtain ⟨c0, c1, c2, c3⟩ := all_cellsC Hrow1.out Hn1.out
      have cf : ∀ j, w1.frozen? ⟨w.heap.size + 1 + 1, j, none⟩ = false := fun j => row_frozen Hrow1.out j
      clear hb1 p0 p1 p2 p3
      go_wp2_with fail
      have hrow2 := all_storeC Hrow1.out Hn1.out s.c
      have hK2 := HK1.out.four (b := w.heap.size + 1 + 1) (by simp) (k * 4) (k * 4 + 1) (k * 4 + 2) (k * 4 + 3) (.int .i64 s.c.st) (.int .i64 s.c.n) (.int .i64 s.c.p) (.int .i64 s.c.ep)
      have hK12 := (Keep.refl [w.heap.size + 1 + 1] w1).four (b := w.heap.size + 1 + 1) (by simp) (k * 4) (k * 4 + 1) (k * 4 + 2) (k * 4 + 3) (.int .i64 s.c.st) (.int .i64 s.c.n) (.int .i64 s.c.p) (.int .i64 s.c.ep)
      generalize ((((w1.setCell ⟨w.heap.size + 1 + 1, k * 4, none⟩ (.int .i64 s.c.st)).setCell ⟨w.heap.size + 1 + 1, k * 4 + 1, none⟩ (.int .i64 s.c.n)).setCell ⟨w.heap.size + 1 + 1, k * 4 + 2, none⟩ (.int .i64 s.c.p)).setCell ⟨w.heap.size + 1 + 1, k * 4 + 3, none⟩ (.int .i64 s.c.ep)) = w2 at hrow2 hK2 hK12 ⊢
      have HS2 := Lib.hid (HS1.out.kept hK12 (by simp; omega) (by simp; omega) (by simp; omega) (fun i hi => by simp only [List.mem_cons, List.not_mem_nil, or_false]; rintro rfl; exact fq hi))
      have Hrow2 := Lib.hid hrow2
      have HK2 := Lib.hid hK2
      clear hrow2 hK2 hK12 c0 c1 c2 c3 cf hlt1
      refine (ext_any B p b g q f e S k _ HS2.out).mono ?_
      rintro r w3 ⟨rfl, hb3⟩
      rw [Hx.out]
      have Hrow3 := Lib.hid (row_below Hrow2.out hb3)
      have HK3 := Lib.hid (HK2.out.call hb3)
      have hlt3 := lt_of_heap Hrow3.out
      have hC8 : (Cs.set k s.c).length = 8 := by rw [List.length_set]; exact HC.out
      have HC8 := Lib.hid hC8
      obtain ⟨x0, x1⟩ := all_cellsX hC8 Hrow3.out Hn2.out
      have xf : ∀ j, w3.frozen? ⟨w.heap.size + 1 + 1, j, none⟩ = false := fun j => row_frozen Hrow3.out j
      clear hb3 hC8
      go_wp2_with fail
      go_roundw
      case rel =>
        refine ⟨k + 1, Cs.set k s.c, Xs.set k s.x, hlt, by go_num, HC8.out, by rw [List.length_set]; exact HX.out, fun j t hj ht => ?_, fun j h1 h2 => ?_, all_storeX HC8.out Hrow3.out Hn2.out s.x, (HK3.out.setCell (p := ⟨w.heap.size + 1 + 1, 32 + k * 2, none⟩) (.inl (by simp)) _).setCell (p := ⟨w.heap.size + 1 + 1, 32 + k * 2 + 1, none⟩) (.inl (by simp)) _⟩
        · rw [List.getElem?_set, List.getElem?_set]
          by_cases hjk : k = j
          · subst hjk
            rw [Hs.out] at ht
            injection ht with ht
            subst ht
            rw [if_pos rfl, if_pos rfl, if_pos (by rw [HC.out]; omega), if_pos (by rw [HX.out]; omega)]
            exact ⟨rfl, rfl⟩
          · rw [if_neg hjk, if_neg hjk]
            exact Hold.out j t (by omega) ht
        · rw [List.getElem?_set, List.getElem?_set, if_neg (by omega), if_neg (by omega)]
          exact Hnew.out j (by omega) h2
      case measure => simp [intOf]; omega
    · obtain rfl : k = S.l.length := by omega
      have hCs : Cs = padC S.l := by
        apply List.ext_getElem?
        intro j
        by_cases h1 : j < S.l.length
        · have h2 := List.getElem?_eq_getElem h1
          rw [(Hold.out j _ h1 h2).1, padC_get h2]
        · by_cases h2 : j < 8
          · rw [(Hnew.out j (by omega) h2).1, padC, List.getElem?_append_right (by simpa using h1), List.getElem?_replicate, if_pos (by simp; omega)]
          · rw [List.getElem?_eq_none (by rw [HC.out]; omega), List.getElem?_eq_none (by rw [padC_len n8]; omega)]
      have hXs : Xs = padX S.l := by
        apply List.ext_getElem?
        intro j
        by_cases h1 : j < S.l.length
        · have h2 := List.getElem?_eq_getElem h1
          rw [(Hold.out j _ h1 h2).2, padX_get h2]
        · by_cases h2 : j < 8
          · rw [(Hnew.out j (by omega) h2).2, padX, List.getElem?_append_right (by simpa using h1), List.getElem?_replicate, if_pos (by simp; omega)]
          · rw [List.getElem?_eq_none (by rw [HX.out]; omega), List.getElem?_eq_none (by rw [padX_len n8]; omega)]
      subst hCs hXs
      have HR1' := Lib.hid (HKp.out.row HR1.out (by simp))
      have hrow := Hrow.out
      have HRow := Lib.hid (show wr.heap[w.heap.size + 1 + 1]? = some (.cells (seenA S.l) 56 (0, 0)) from hrow)
      have Hsz := Lib.hid (seen_size n8)
      clear hrow
      go_wp2_with (first | refine wpList_load_row rfl 56 (.tmp 5) rfl (w.heap.size + 1 + 1) rfl 56 (seenA S.l) (0, 0) _ HRow.out undAll rfl (by rw [Hsz.out]; exact infoAll) ?_ | refine wpList_store_row rfl 56 (.tmp 4) (.tmp 32) rfl (w.heap.size + 1) (seenA S.l) rfl rfl 56 ZAll HR1'.out (by rw [Hsz.out]; exact infoAll) (by rw [Hsz.out]; exact sizeAll) (seen_one S.l) ?_)
      have hfin := setRow_heap wr (w.heap.size + 1) ZAll (seenA S.l) 56 (0, 0) HR1'.out
      refine bodyPost_ret (results_cell_row (fn := Try.f22) rfl _ _ (w.heap.size + 1) 56 (seenA S.l) (0, 0) _ rfl hfin undAll rfl (by rw [Hsz.out]; exact infoAll)) rfl ?_
      have hb : Below w.heap.size w wr := Keep.under HB0.out HKp.out (by omega) (by simp; omega)
      exact ⟨rfl, below_setRow hb (by omega) _⟩

end Go.Proofs.Ytcicpfhbpcdjcaa
