/- Words for the texts that walk a micro-step: a struct that ends in a call on its way; maps that are made on the spot. (Printed by gen_takeb.py.) -/
import Derived.Test.YtnimaajnlkbdaaaGreatTakeA
import Derived.Test.YtnimaajnlkbdaaaGreatFound
import Derived.Test.YtnimaajnlkbdaaaGreatBRefC
namespace Go.Proofs.YtnimaajnlkbdaaaGreat
open Go.RowKit
set_option linter.unusedVariables false
set_option linter.unusedSimpArgs false

/-- a struct that ends in a call on its way -/
def preArr (pr cs : Array Value) : Array Value := pr ++ cs
theorem pre_get (pr cs : Array Value) (n j : Nat) (hn : n = pr.size + j) : (preArr pr cs)[n]? = cs[j]? := by
 subst hn
 unfold preArr
 rw [Array.getElem?_append_right (by omega)]
 simp
theorem pre_low (pr cs : Array Value) (n : Nat) (hn : n < pr.size) : (preArr pr cs)[n]? = pr[n]? := by
 unfold preArr
 rw [Array.getElem?_append_left hn]
theorem pre_size (pr cs : Array Value) : (preArr pr cs).size = pr.size + cs.size := by simp [preArr]
theorem pre_set (pr cs : Array Value) (n j : Nat) (v : Value) (hn : n = pr.size + j) : (preArr pr cs).setIfInBounds n v = preArr pr (cs.setIfInBounds j v) := by
 subst hn
 apply Array.ext_getElem?
 intro i
 rcases Nat.lt_or_ge i pr.size with h | h
 ·rw [Array.getElem?_setIfInBounds_ne (by omega), pre_low _ _ _ h, pre_low _ _ _ h]
 ·obtain ⟨k, rfl⟩ : ∃ k, i = pr.size + k := ⟨i - pr.size, by omega⟩
  rw [pre_get pr _ _ k rfl]
  by_cases e : j = k
  ·subst e
   by_cases hl : j < cs.size
   ·rw [Array.getElem?_setIfInBounds_self_of_lt (by rw [pre_size]; omega), Array.getElem?_setIfInBounds_self_of_lt hl]
   ·rw [Array.getElem?_eq_none (by simp [pre_size]; omega), Array.getElem?_eq_none (by simp; omega)]
  ·rw [Array.getElem?_setIfInBounds_ne (by omega), pre_get pr _ _ k rfl, Array.getElem?_setIfInBounds_ne e]
theorem set_oneR {P : World → Prop} (W : World) (g i : Nat) (u : Value) (cs : Array Value) (t : TypeId) (h : W.heap[g]? = some (.cells cs t (0, 0)))
  (K : ∀ Y, Y.heap[g]? = some (.cells (cs.setIfInBounds i u) t (0, 0)) → Keep [g] W Y → P Y) : P (W.setCell ⟨g, i, none⟩ u) :=
 K _ (row_set h u) ((Keep.refl [g] W).setCell (p := ⟨g, i, none⟩) (.inl (by simp)) u)
theorem set_twoR {P : World → Prop} (W : World) (g i j : Nat) (u v : Value) (cs : Array Value) (t : TypeId) (h : W.heap[g]? = some (.cells cs t (0, 0)))
  (K : ∀ Y, Y.heap[g]? = some (.cells ((cs.setIfInBounds i u).setIfInBounds j v) t (0, 0)) → Keep [g] W Y → P Y) : P ((W.setCell ⟨g, i, none⟩ u).setCell ⟨g, j, none⟩ v) :=
 K _ (row_set (row_set h u) v) (((Keep.refl [g] W).setCell (p := ⟨g, i, none⟩) (.inl (by simp)) u).setCell (p := ⟨g, j, none⟩) (.inl (by simp)) v)
theorem one4 (a b c d : Int) : (#[Value.int .i64 a, .int .i64 b, .int .i64 c, .int .i64 d].all (·.oneCell')) = true := by simp [Value.oneCell']
theorem wpList_build_to {P : Program} {ops : Array Oper} {rest : List Oper} {o : Oper} {a : Act} {w : World} {Q : Exit → Act → World → Prop} (hg : o.guard = none) (t : TypeId) (parts : Array (Nat × Operand)) (ho : o.op = .build t parts) (cells : Array Value)
  (hb : P.built t (parts.map fun (i, x) => (i, a.eval x)).toList = some cells) (h : wpList P ops Q rest (a.put o.dst (.agg cells)) w) : wpList P ops Q (o :: rest) a w :=
 wpList_build hg t parts ho (by rw [hb]; rfl) (by rw [hb]; exact h)
theorem Arn.drewN {w : World} {p b : Nat} {ws : List Int} (h : Arn w p b ws) (n : Nat) : Arn (w.drewN n) p b ws := ⟨h.box, h.row, h.ok, h.ne, h.small, h.some⟩
theorem Arn.drew {w : World} {p b : Nat} {ws : List Int} (h : Arn w p b ws) : Arn w.drew p b ws := ⟨h.box, h.row, h.ok, h.ne, h.small, h.some⟩
theorem infoCal7 : (Tryz.prog.info? 36).map (·.size) = some 7 := by kernel_rfl
theorem undCal7 : Tryz.prog.underlying 36 = some (.struct (Tryz.prog.fieldsOf 36)) := by kernel_rfl

/-- the handle of an object -/
def hdl (sc ep q : Int) : Int := q + 16777216 * sc + 4294967296 * ep
theorem one7 (a b c d e f g : Int) : (#[Value.int .u8 a, .int .u8 b, .int .u8 c, .int .u8 d, .int .i64 e, .int .i64 f, .int .i64 g].all (·.oneCell')) = true := by simp [Value.oneCell']

end Go.Proofs.YtnimaajnlkbdaaaGreat
