/- Four calls on their way in one array. -/
import Derived.Test.YtconieenkeajiaaEnterF
namespace Go.Proofs.Ytconieenkeajiaa
open Go.RowKit
set_option linter.unusedVariables false
set_option linter.unusedSimpArgs false

def runs4 (l : List Rn) : Array Value := (l.flatMap fun r => r.arr.toList).toArray
theorem arr_len (r : Rn) : ((fun r : Rn => r.arr.toList) r).length = 26 := rfl
theorem runs_get {l : List Rn} {k : Nat} {r : Rn} (hk : l[k]? = some r) {j : Nat} {v : Value} (hv : r.arr[j]? = some v) : (runs4 l)[k * 26 + j]? = some v := by
  have hj : j < 26 := by
    rcases Nat.lt_or_ge j 26 with h | h
    · exact h
    · rw [Array.getElem?_eq_none (by simpa using h)] at hv; cases hv
  unfold runs4
  rw [List.getElem?_toArray, flat_get (fun r : Rn => r.arr.toList) 26 arr_len l k j hj, hk]
  simpa using hv
theorem runs_size (l : List Rn) : (runs4 l).size = l.length * 26 := by
  unfold runs4
  rw [List.size_toArray, flat_length (fun r : Rn => r.arr.toList) 26 arr_len]
theorem runs_set {l : List Rn} {k : Nat} (hk : k < l.length) (r : Rn) : subSet (runs4 l) (k * 26) r.arr = runs4 (l.set k r) :=
  flat_subSet (fun r : Rn => r.arr) 26 (fun _ => rfl) l k r hk
theorem runs_cell {w : World} {g : Nat} {l : List Rn} {k : Nat} {r : Rn} {t : TypeId} (h : w.heap[g]? = some (.cells (runs4 l) t (0, 0))) (hk : l[k]? = some r) {j : Nat} {v : Value} (hv : r.arr[j]? = some v) : w.cell? ⟨g, k * 26 + j, none⟩ = some v := by
  rw [row_cell h]; exact runs_get hk hv
theorem runs_one (l : List Rn) : (runs4 l).all (·.oneCell') = true := by
  rw [Array.all_eq_true_iff_forall_mem]
  intro v hv
  unfold runs4 at hv
  rw [List.mem_toArray] at hv
  obtain ⟨r, _, hr⟩ := List.mem_flatMap.1 hv
  exact (Array.all_eq_true_iff_forall_mem.1 (Rn.one r)) v (by simpa using hr)
theorem info4 : (Try.prog.info? 41).map (·.size) = some 104 := by kernel_rfl
theorem und4 : Try.prog.underlying 41 = some (.array 4 40) := by kernel_rfl
/-- no call at all -/
def zRn : Rn := ⟨⟨0, 0, 0, 0, 0, 0, 0⟩, 0, 0, 0, 0, noS, 0, 0, 0, 0, noS, 0, noS, 0, false, false, false, 0, 0, noS⟩
def dRn : Rn := { zRn with done := true }
theorem alloc4 (w : World) : (Instr.alloc 41 true (.tuple #[])).run Try.prog w = .ok (.pointer (some ⟨w.heap.size, 0, none⟩)) (w.alloc (.cells (runs4 [zRn, zRn, zRn, zRn]) 41)) := by kernel_rfl
theorem wpList_alloc_to {P : Program} {ops : Array Oper} {rest : List Oper} {o : Oper} {a : Act} {w : World} {Q : Exit → Act → World → Prop} (hg : o.guard = none) (t : TypeId) (ho : o.op = .alloc t) (cs : Array Value)
    (hr : (Instr.alloc t true (.tuple #[])).run P w = .ok (.pointer (some ⟨w.heap.size, 0, none⟩)) (w.alloc (.cells cs t))) (h : wpList P ops Q rest (a.put o.dst (.pointer (some ⟨w.heap.size, 0, none⟩))) (w.alloc (.cells cs t))) : wpList P ops Q (o :: rest) a w :=
  wpList_plain hg fun K hK => by
    unfold Oper.wp execOp
    simp only [ho, hr, Sem.run_bind, Sem.run_pure, Result.andThen_ok]
    exact hK _ _ h
theorem built_d : Try.prog.built 40 [(15, .bool true)] = some dRn.arr := by kernel_rfl
theorem built_4 (a b c d : Rn) : Try.prog.built 41 [(0, .agg a.arr), (1, .agg b.arr), (2, .agg c.arr), (3, .agg d.arr)] = some (runs4 [a, b, c, d]) := by kernel_rfl
theorem built_z4 : Try.prog.built 41 [] = some (runs4 [zRn, zRn, zRn, zRn]) := by kernel_rfl

end Go.Proofs.Ytconieenkeajiaa
