/- Two calls on their way in one array; allocations among them. -/
import Derived.Test.YtoadddfiibeenaaT15O
namespace Go.Proofs.Ytoadddfiibeenaa
open Go.RowKit
set_option linter.unusedVariables false
set_option linter.unusedSimpArgs false

def runsA (l : List Rn) : Array Value := (l.flatMap fun r => r.arr.toList).toArray
theorem arr_len (r : Rn) : ((fun r : Rn => r.arr.toList) r).length = 26 := rfl
theorem runs_get {l : List Rn} {k : Nat} {r : Rn} (hk : l[k]? = some r) {j : Nat} {v : Value} (hv : r.arr[j]? = some v) : (runsA l)[k * 26 + j]? = some v := by
  have hj : j < 26 := by
    rcases Nat.lt_or_ge j 26 with h | h
    · exact h
    · rw [Array.getElem?_eq_none (by simpa using h)] at hv; cases hv
  unfold runsA
  rw [List.getElem?_toArray, flat_get (fun r : Rn => r.arr.toList) 26 arr_len l k j hj, hk]
  simpa using hv
theorem runs_size (l : List Rn) : (runsA l).size = l.length * 26 := by
  unfold runsA
  rw [List.size_toArray, flat_length (fun r : Rn => r.arr.toList) 26 arr_len]
theorem runs_set {l : List Rn} {k : Nat} (hk : k < l.length) (r : Rn) : subSet (runsA l) (k * 26) r.arr = runsA (l.set k r) :=
  flat_subSet (fun r : Rn => r.arr) 26 (fun _ => rfl) l k r hk
theorem runs_cell {w : World} {g : Nat} {l : List Rn} {k : Nat} {r : Rn} {t : TypeId} (h : w.heap[g]? = some (.cells (runsA l) t (0, 0))) (hk : l[k]? = some r) {j : Nat} {v : Value} (hv : r.arr[j]? = some v) : w.cell? ⟨g, k * 26 + j, none⟩ = some v := by
  rw [row_cell h]; exact runs_get hk hv
theorem runs_one (l : List Rn) : (runsA l).all (·.oneCell') = true := by
  rw [Array.all_eq_true_iff_forall_mem]
  intro v hv
  unfold runsA at hv
  rw [List.mem_toArray] at hv
  obtain ⟨r, _, hr⟩ := List.mem_flatMap.1 hv
  exact (Array.all_eq_true_iff_forall_mem.1 (Rn.one r)) v (by simpa using hr)
theorem info2R : (Try.prog.info? 43).map (·.size) = some 52 := by kernel_rfl
theorem und2R : Try.prog.underlying 43 = some (.array 2 42) := by kernel_rfl
/-- no call at all -/
def zRn : Rn := ⟨⟨0, 0, 0, 0, 0, 0, 0⟩, 0, 0, 0, 0, noS, 0, 0, 0, 0, noS, 0, noS, 0, false, false, false, 0, 0, noS⟩
def dRn : Rn := { zRn with done := true }
theorem alloc2R (w : World) : (Instr.alloc 43 true (.tuple #[])).run Try.prog w = .ok (.pointer (some ⟨w.heap.size, 0, none⟩)) (w.alloc (.cells (runsA [zRn, zRn]) 43)) := by kernel_rfl
theorem wpList_alloc_to {P : Program} {ops : Array Oper} {rest : List Oper} {o : Oper} {a : Act} {w : World} {Q : Exit → Act → World → Prop} (hg : o.guard = none) (t : TypeId) (ho : o.op = .alloc t) (cs : Array Value)
    (hr : (Instr.alloc t true (.tuple #[])).run P w = .ok (.pointer (some ⟨w.heap.size, 0, none⟩)) (w.alloc (.cells cs t))) (h : wpList P ops Q rest (a.put o.dst (.pointer (some ⟨w.heap.size, 0, none⟩))) (w.alloc (.cells cs t))) : wpList P ops Q (o :: rest) a w :=
  wpList_plain hg fun K hK => by
    unfold Oper.wp execOp
    simp only [ho, hr, Sem.run_bind, Sem.run_pure, Result.andThen_ok]
    exact hK _ _ h
theorem built_d : Try.prog.built 42 [(15, .bool true)] = some dRn.arr := by kernel_rfl
theorem built_2R (a b : Rn) : Try.prog.built 43 [(0, .agg a.arr), (1, .agg b.arr)] = some (runsA [a, b]) := by kernel_rfl
theorem mask1 (x : Int) : bits .and .i64 x 1 = x % 2 := i64_mask 1 x 1 (by omega) rfl
theorem bit_ex (E : Int) : ∃ kn : Nat, kn < 2 ∧ Value.int .i64 (bits .and .i64 E 1) = .int .i64 kn := by
  rw [mask1]
  exact ⟨(E % 2).toNat, by omega, by rw [Int.toNat_of_nonneg (by omega)]⟩
theorem mask6 (x : Int) : bits .and .i64 x 63 = x % 64 := i64_mask 6 x 63 (by omega) rfl
theorem yieldsIf_load_sub {P : Program} {ops : Array Oper} {S : World → Prop} {op : Oper} {a : Act} (hw : Region.wanted op (yielded ops a.tmps) = true) (ty : TypeId) (x : Operand) (ho : op.op = .load ty x)
    (g off : Nat) (hx : a.eval x = .pointer (some ⟨g, off, none⟩)) (cur cs : Array Value) {t : TypeId} {fr : Nat × Nat} {d : TypeDesc} (hS : ∀ w, S w → w.heap[g]? = some (.cells cur t fr)) (hc : ∀ j v, cs[j]? = some v → cur[off + j]? = some v)
    (hu : P.underlying ty = some d) (hd : (match d with | .struct _ | .array _ _ => true | _ => false) = true) (hi : (P.info? ty).map (·.size) = some cs.size) : YieldsIf P ops S op (.agg cs) a :=
  .inl ⟨hw, fun w hw' => by
    unfold execOp
    simp only [ho, hx, Instr.loadAt, Instr.sureAddr, Sem.run_bind, Sem.run_pure, Result.andThen_ok, run_loadVar_sub w g off t ty cur cs fr d (hS w hw') hc hu hd hi]⟩
theorem step_store_sub {P : Program} {ops : Array Oper} {o : Oper} {a : Act} {w : World} {K : Act → World → Prop} {Q : Exit → Act → World → Prop} {E : Prop} (dd : Option Tmp) (hdd : o.dst = dd) (hgd : o.guard = none) (ty : TypeId) (x y : Operand) (ho : o.op = .store ty x y)
    (g off : Nat) (cells : Array Value) (hx : a.eval x = .pointer (some ⟨g, off, none⟩)) (hy : a.eval y = .agg cells)
    (t : TypeId) (old : Array Value) (hg : w.heap[g]? = some (.cells old t (0, 0))) (hi : (P.info? ty).map (·.size) = some cells.size)
    (hold : off + cells.size ≤ old.size) (h1 : cells.all (·.oneCell') = true)
    (h : K (a.put dd undef) (w.setRow g (subSet old off cells))) : if Region.wanted o (yielded ops a.tmps) = true then Oper.wp P o a w K Q else E := by
  subst hdd
  have hw : Region.wanted o (yielded ops a.tmps) = true := by simp [Region.wanted, hgd]
  rw [if_pos hw]
  exact wp_store_sub ty x y ho g off cells hx hy t old hg hi hold h1 h

/-- a run: done, or an allocation on its way; its entries lie in none of the blocks F -/
def RunK (im ep u : Int) (w : World) (F : List Nat) (r : Rn) : Prop :=
  r.done = true ∨ ∃ (i : Bool) (cA : Option Addr) (kc : Nat), Ents w cA (chE i) ∧ (∀ z, 0 < (chE i).length → cA = some z → z.block ∉ F) ∧ TkRun (chK i) (cOf ep i) (baOf im i) (buOf im u i) ⟨cA, (chE i).length, kc⟩ r
section
variable {im ep u : Int} {w w' : World} {F S : List Nat} {r : Rn} {n : Nat} {l : List Rn}
theorem RunK.below (h : RunK im ep u w F r) (hb : Below w.heap.size w w') : RunK im ep u w' F r := by
  rcases h with h | ⟨i, cA, kc, h1, h2, h3⟩
  · exact .inl h
  · exact .inr ⟨i, cA, kc, Ents.below h1 hb, h2, h3⟩
theorem RunK.kept (h : RunK im ep u w F r) (k : Keep S w w') (hs : ∀ i ∈ S, i ∈ F) : RunK im ep u w' F r := by
  rcases h with h | ⟨i, cA, kc, h1, h2, h3⟩
  · exact .inl h
  · exact .inr ⟨i, cA, kc, ents_kept h1 k (fun z h0 hz hm => h2 z h0 hz (hs _ hm)), h2, h3⟩
def AllK (im ep u : Int) (w : World) (F : List Nat) (n : Nat) (l : List Rn) : Prop := l.length = n ∧ ∀ r ∈ l, RunK im ep u w F r
theorem AllK.below (h : AllK im ep u w F n l) (hb : Below w.heap.size w w') : AllK im ep u w' F n l := ⟨h.1, fun r hr => (h.2 r hr).below hb⟩
theorem AllK.kept (h : AllK im ep u w F n l) (k : Keep S w w') (hs : ∀ i ∈ S, i ∈ F) : AllK im ep u w' F n l := ⟨h.1, fun r hr => (h.2 r hr).kept k hs⟩
theorem AllK.set (h : AllK im ep u w F n l) (k : Nat) (hr : RunK im ep u w F r) : AllK im ep u w F n (l.set k r) := by
  refine ⟨by simpa using h.1, fun x hx => ?_⟩
  rcases List.mem_or_eq_of_mem_set hx with h1 | h1
  · exact h.2 x h1
  · rw [h1]; exact hr
end
end Go.Proofs.Ytoadddfiibeenaa
