/- Layer 14: what is free and what the scopes have, in one row, in plain terms. -/
import Derived.Test.YthedndejlfkknaaFLawPlain
import Derived.Deep.WholeRow
import Derived.BigQuiet
namespace Go.Proofs.Ythedndejlfkknaa
open Go.RowKit
set_option linter.unusedVariables false
set_option linter.unusedSimpArgs false

def intsV (b : List Bool) : List Value := b.map fun v => .int .i64 (if v then 1 else 0)
theorem ints_set {b : List Bool} (k : Nat) : ((intsV b).toArray.setIfInBounds k (.int .i64 1)) = (intsV (b.set k true)).toArray := by
  apply Array.ext'
  simp [intsV, List.map_set]
theorem ints_cell {w : World} {q : Nat} {b : List Bool} {t : TypeId} (h : w.heap[q]? = some (.cells (intsV b).toArray t (0, 0))) (k : Nat) (v : Bool) (hv : b[k]? = some v) : w.cell? ⟨q, k, none⟩ = some (.int .i64 (if v then 1 else 0)) := by
  rw [row_cell h]
  simp [intsV, hv]
def Z128 : Array Value := (intsV (List.replicate 128 false)).toArray
theorem zero128 (w : World) : (zeroValue 70).run Try.prog w = .ok (.agg Z128) w := by kernel_rfl
theorem info128 : (Try.prog.info? 70).map (·.size) = some 128 := by kernel_rfl
theorem build128 (w : World) : (Instr.build 70 #[]).run Try.prog w = .ok (.agg Z128) w := by kernel_rfl
theorem alloc128 (w : World) : (Instr.alloc 70 true (.tuple #[])).run Try.prog w = .ok (.pointer (some ⟨w.heap.size, 0, none⟩)) (w.alloc (.cells Z128 70)) := by kernel_rfl
theorem size128 : Z128.size = 128 := by simp [Z128, intsV]
theorem one128 : Z128.all (·.oneCell') = true := by kernel_rfl

theorem wpList_zero128 {w : World} {ops : Array Oper} {rest : List Oper} {o1 o2 o3 : Oper} {a : Act} {Q : Exit → Act → World → Prop} (x y : Tmp) (g1 : o1.guard = none) (g2 : o2.guard = none) (g3 : o3.guard = none)
    (h1 : o1.op = .build 70 #[]) (h2 : o2.op = .alloc 70) (h3 : o3.op = .store 70 (.tmp x) (.tmp y))
    (d3 : o3.dst = none)
    (e1 : ((a.put o1.dst (.agg Z128)).put o2.dst (.pointer (some ⟨w.heap.size, 0, none⟩))).eval (.tmp x) = .pointer (some ⟨w.heap.size, 0, none⟩))
    (e2 : ((a.put o1.dst (.agg Z128)).put o2.dst (.pointer (some ⟨w.heap.size, 0, none⟩))).eval (.tmp y) = .agg Z128)
    (h : wpList Try.prog ops Q rest ((a.put o1.dst (.agg Z128)).put o2.dst (.pointer (some ⟨w.heap.size, 0, none⟩))) (w.alloc (.cells Z128 70))) :
    wpList Try.prog ops Q (o1 :: o2 :: o3 :: rest) a w := by
  refine wpList_plain g1 fun K hK => ?_
  unfold Oper.wp execOp
  simp only [h1, Array.map_empty, build128, Sem.run_bind, Sem.run_pure, Result.andThen_ok]
  refine hK _ _ (wpList_plain g2 fun K hK => ?_)
  unfold Oper.wp execOp
  simp only [h2, alloc128, Sem.run_bind, Sem.run_pure, Result.andThen_ok]
  refine hK _ _ (wpList_plain g3 fun K hK => ?_)
  have hst := run_storeAt_new (P := Try.prog) w 70 Z128 Z128 (by rw [size128]; exact info128) rfl one128
  unfold Oper.wp execOp
  simp only [h3, e1, e2, hst, Sem.run_bind, Sem.run_pure, Result.andThen_ok]
  exact hK _ _ (by rw [d3]; exact h)

/-- the extents of those that are there -/
def exts14 (l : List Sc) : List Ext := l.filterMap fun s => if s.c.st = 0 then none else some s.x
/-- what is free, and the extents of the scopes below the k-th -/
def rowsS (S : Sco) (k : Nat) : List Ext := S.F ++ exts14 ((S.l.take k).drop 1)
theorem rows_one (S : Sco) : rowsS S 1 = S.F := by
  unfold rowsS exts14
  rw [List.drop_eq_nil_of_le (by rw [List.length_take]; omega)]
  simp
theorem rows_next {S : Sco} {k : Nat} {s : Sc} (hk : 1 ≤ k) (hs : S.l[k]? = some s) : rowsS S (k + 1) = if s.c.st = 0 then rowsS S k else rowsS S k ++ [s.x] := by
  have hl := (List.getElem?_eq_some_iff.1 hs).1
  have h1 : (S.l.take (k + 1)).drop 1 = (S.l.take k).drop 1 ++ [s] := by
    rw [List.take_add_one, hs, Option.toList_some, List.drop_append_of_le_length (by rw [List.length_take]; omega)]
  unfold rowsS exts14
  rw [h1, List.filterMap_append, ← List.append_assoc]
  by_cases h0 : s.c.st = 0
  · rw [if_pos h0]
    simp [h0]
  · rw [if_neg h0]
    simp [h0]
theorem rows_len {S : Sco} {k : Nat} : (rowsS S k).length ≤ S.F.length + S.l.length := by
  unfold rowsS exts14
  rw [List.length_append]
  have h1 := List.length_filterMap_le (fun s : Sc => if s.c.st = 0 then none else some s.x) ((S.l.take k).drop 1)
  rw [List.length_drop, List.length_take] at h1
  omega
theorem rows_ok {f e : Int} {S : Sco} (h : Til f e S) (k : Nat) (hk : 1 ≤ k) (hl : k ≤ S.l.length) :
    (∀ x ∈ rowsS S k, Fits f e x) ∧ (rowsS S k).Pairwise (fun x y => ∀ j, inX x j → ¬ inX y j) ∧ (∀ x ∈ rowsS S k, x ∈ S.F ∨ ∃ i t, 1 ≤ i ∧ i < k ∧ S.l[i]? = some t ∧ t.x = x) ∧
    (∀ j, cov S.F j ∨ upto S k j → cov (rowsS S k) j) := by
  induction k with
  | zero => omega
  | succ k ih =>
    by_cases hk1 : k = 0
    · subst hk1
      rw [rows_one]
      refine ⟨fun x hx => h.can.mem hx, ?_, fun x hx => .inl hx, ?_⟩
      · refine h.can.pair.imp ?_
        intro x y hxy j hx hy
        obtain ⟨a1, a2⟩ := hx
        obtain ⟨b1, b2⟩ := hy
        omega
      · rintro j (hj | hj)
        · exact hj
        · exact absurd hj (upto_one S j)
    · obtain ⟨g1, g2, g3, g4⟩ := ih (by omega) (by omega)
      obtain ⟨s, hs⟩ : ∃ s, S.l[k]? = some s := ⟨_, List.getElem?_eq_getElem (by omega)⟩
      rw [rows_next (by omega) hs]
      rcases h.own k s (by omega) hs with ⟨h1, h2⟩ | ⟨h1, h2⟩
      · rw [if_pos h1]
        refine ⟨g1, g2, fun x hx => (g3 x hx).imp id (fun ⟨i, t, a, b, c, d⟩ => ⟨i, t, a, by omega, c, d⟩), fun j hj => g4 j (hj.imp id (fun hj => (upto_none (by omega) hs h2 j).2 hj))⟩
      · rw [if_neg (by omega)]
        refine ⟨fun x hx => ?_, ?_, fun x hx => ?_, fun j hj => ?_⟩
        · rcases List.mem_append.1 hx with hx | hx
          · exact g1 x hx
          · simp at hx; subst hx; exact h2
        · rw [List.pairwise_append]
          refine ⟨g2, List.pairwise_singleton _ _, fun x hx y hy j hxj hyj => ?_⟩
          simp at hy
          subst hy
          rcases g3 x hx with hF | ⟨i, t, a1, a2, a3, a4⟩
          · exact h.free k s (by omega) hs j hyj ⟨x, hF, hxj.1, hxj.2⟩
          · subst a4
            exact h.apart i k t s a1 (by omega) (by omega) a3 hs j hxj hyj
        · rcases List.mem_append.1 hx with hx | hx
          · exact (g3 x hx).imp id (fun ⟨i, t, a, b, c, d⟩ => ⟨i, t, a, by omega, c, d⟩)
          · simp at hx; subst hx; exact .inr ⟨k, s, by omega, by omega, hs, rfl⟩
        · rw [cov_append]
          rcases hj with hj | hj
          · exact .inl (g4 j (.inl hj))
          · rcases (upto_next (by omega) hs j).2 hj with hj | hj
            · exact .inl (g4 j (.inr hj))
            · exact .inr ⟨s.x, by simp, hj.1, hj.2⟩
theorem rows_spec {f e : Int} {S : Sco} {u : List Bool} {k : Nat} {x : Ext} (h : Til f e S) (h1 : 1 ≤ S.l.length) (hx : (rowsS S S.l.length)[k]? = some x) (hU : Used f u (cov ((rowsS S S.l.length).take k))) (h8 : f % 8 = 0) (he : e - f ≤ 1024) :
    ∃ ii mm : Nat, x.2 = 8 * (mm : Int) ∧ x.1 = f + 8 * (ii : Int) ∧ ii + mm ≤ 128 ∧ (∀ j, ii ≤ j → j < ii + mm → u[j]? = some false) ∧ Used f (setB u ii true mm) (cov ((rowsS S S.l.length).take (k + 1))) ∧
      f ≤ x.1 ∧ x.1 + x.2 ≤ e ∧ 8 ≤ x.2 ∧ x.1 % 8 = 0 := by
  obtain ⟨g1, g2, _, _⟩ := rows_ok h _ h1 (Nat.le_refl _)
  obtain ⟨H, hH⟩ : ∃ H, rowsS S S.l.length = H := ⟨_, rfl⟩
  rw [hH] at g1 g2 hx hU ⊢
  obtain ⟨hk, hxk⟩ := List.getElem?_eq_some_iff.1 hx
  have hf := g1 x (List.mem_of_getElem? hx)
  have hno : ∀ j, inX x j → ¬ cov (H.take k) j := by
    rintro j hj ⟨y, hy, y1, y2⟩
    obtain ⟨i, hi, rfl⟩ := List.getElem_of_mem hy
    rw [List.length_take] at hi
    rw [List.getElem_take] at y1 y2
    rw [List.pairwise_iff_getElem] at g2
    subst hxk
    exact g2 i k (by omega) hk (by omega) j ⟨y1, y2⟩ hj
  have hQ : ∀ j, (cov (H.take k) j ∨ inX x j) ↔ cov (H.take (k + 1)) j := by
    intro j
    subst hxk
    rw [List.take_succ_eq_append_getElem hk, cov_append, cov_cons]
    simp only [cov_nil, or_false]
    exact Iff.rfl
  obtain ⟨i, m, a1, a2, a3, a4, a5⟩ := used_step hU hf h8 he hno hQ
  obtain ⟨b1, b2, b3, b4, b5⟩ := hf
  exact ⟨i, m, a2, a1, a3, a4, a5, b1, b5, by omega, b3⟩
theorem rows_all {f e : Int} {S : Sco} (h : Til f e S) (h1 : 1 ≤ S.l.length) (j : Int) (j1 : f ≤ j) (j2 : j < e) : cov ((rowsS S S.l.length).take (rowsS S S.l.length).length) j := by
  rw [List.take_length]
  refine (rows_ok h _ h1 (Nat.le_refl _)).2.2.2 j ?_
  rcases h.whole j j1 j2 with hj | ⟨k, s, hk, hs, hj⟩
  · exact .inl hj
  · exact .inr ⟨k, s, hk, (List.getElem?_eq_some_iff.1 hs).1, hs, hj⟩
theorem til_does {f e : Int} {mk : Bool} {n : Int} {S : Sco} (h : Til f e S) : Til f e (does14 f e mk n S) := by
  unfold does14
  cases mk with
  | true => exact til_create h
  | false => exact til_destroy h
theorem til_new14 {s t i h : Int} (H : PlanOk s t i h) : Til (64 * s + i) (64 * s + i + h) (newS ⟨s, t, i, h⟩) := by
  have hn : s = (s.toNat : Int) := by have := H.s0; omega
  have := til_new (n := s.toNat) (t := t) (i := i) (m := h) H.h0 H.i8 H.h8
  rw [← hn, Int.mul_comm s 64] at this
  exact this

end Go.Proofs.Ythedndejlfkknaa
