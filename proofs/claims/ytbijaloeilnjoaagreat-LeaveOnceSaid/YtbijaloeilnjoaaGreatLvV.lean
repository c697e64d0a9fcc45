/- One cell stored, by its law, in a region that draws its order. -/
import Derived.Test.YtbijaloeilnjoaaGreatLvH
namespace Go.Proofs.YtbijaloeilnjoaaGreat
open Go.RowKit
set_option linter.unusedVariables false
set_option linter.unusedSimpArgs false

theorem run_storeVar_one {P : Program} (w : World) (g i : Nat) (ty t : TypeId) (v : Value) (cs : Array Value) (hg : w.heap[g]? = some (.cells cs t (0, 0))) (hi : i < cs.size) (hinf : (P.info? ty).map (·.size) = some 1) (h1 : v.oneCell' = true) :
  (storeVar ty ⟨g, i, none⟩ v).run P w = .ok () (w.setCell ⟨g, i, none⟩ v) := by
 have hc : v.cells = #[v] := by cases v <;> first | rfl | (simp [Value.oneCell'] at h1)
 have hcell : w.cell? ⟨g, i, none⟩ = some cs[i] := by rw [row_cell hg]; exact Array.getElem?_eq_getElem hi
 have hf : w.frozen? ⟨g, i, none⟩ = false := row_frozen hg i
 have hst := run_store P w ⟨g, i, none⟩ v .plain h1
 rw [hcell] at hst
 simp only [hf, Bool.false_eq_true, if_false] at hst
 cases hq : P.info? ty with
 | none => simp [hq] at hinf
 | some z =>
  have hs : z.size = 1 := by simpa [hq] using hinf
  simp [storeVar, sizeOf, typeInfo, hq, hc, hs, storeCells, Addr.add, hst]
theorem step_store_one {P : Program} {ops : Array Oper} {o : Oper} {a : Act} {w : World} {K : Act → World → Prop} {Q : Exit → Act → World → Prop} {E : Prop} (d : Option Tmp) (hd : o.dst = d) (hgd : o.guard = none) (ty : TypeId) (x y : Operand) (ho : o.op = .store ty x y)
  (g i : Nat) (v : Value) (hx : a.eval x = .pointer (some ⟨g, i, none⟩)) (hy : a.eval y = v)
  (t : TypeId) (cs : Array Value) (hg : w.heap[g]? = some (.cells cs t (0, 0))) (hi : i < cs.size) (hinf : (P.info? ty).map (·.size) = some 1) (h1 : v.oneCell' = true)
  (h : K (a.put d undef) (w.setCell ⟨g, i, none⟩ v)) : if Region.wanted o (yielded ops a.tmps) = true then Oper.wp P o a w K Q else E := by
 subst hd
 have hw : Region.wanted o (yielded ops a.tmps) = true := by simp [Region.wanted, hgd]
 rw [if_pos hw]
 unfold Oper.wp execOp
 simp only [ho, hx, hy, Instr.storeAt, Instr.sureAddr, Sem.run_bind, Sem.run_pure, Result.andThen_ok, run_storeVar_one w g i ty t v cs hg hi hinf h1]
 exact h
theorem lvr_size {p : Nat} {s t i h : Int} {fA : Option Addr} {fn fc : Nat} {r : Rn} : (preArr (lvPre p s t i h fA fn fc) r.arr).size = 32 := by
 unfold preArr
 rw [Array.size_append]
 rfl
theorem infoInts : (Tryz.prog.info? 38).map (·.size) = some 1 := by kernel_rfl
theorem infoI64 : (Tryz.prog.info? 3).map (·.size) = some 1 := by kernel_rfl
theorem infoBool1 : (Tryz.prog.info? 4).map (·.size) = some 1 := by kernel_rfl
end Go.Proofs.YtbijaloeilnjoaaGreat
