/- Words of our own for memory: cells behind a slice value, rows of structs, append and copy of rows of any width, and small lemmas that close the walks. No program in sight. How the arguments of a law are opened: a slice of flat elements as a list; a small array of integers. Bits as sums and remainders. No program in sight. More words of our own for memory: rows of the call's own over calls, and structs that are stored whole. No program in sight. Words of our own for memory that is written: all but some blocks as it was. No program in sight. Chains of entries, in plain terms: an entry is a scope and whether it is counted. No program in sight. What a control word tells, in plain terms. No program in sight. -/
import Derived.Test.YtbijaloeilnjoaaGreatRows
import Derived.Handy
import Derived.WalkKit
import Derived.WalkSpells
import Derived.WalkLawsBesides
import Derived.Deep.QuietTactic
import Derived.BigQuiet
import Derived.Lib.Hide
import Derived.Laws.CopyRow
import Derived.Maps.AppendAt
import Derived.Deep.AppendLies
import Derived.ProofKit
import Derived.OpenShut
import Derived.JoinedCond
import Derived.Deep.Slices
import Derived.Deep.Fields
import Derived.ChangeSame
import Derived.Deep.RegionLawGrows
namespace Go.Proofs.YtbijaloeilnjoaaGreat
open Go.RowKit

theorem zA (a : Act) (d : Tmp) (v : Value) : a.put (some d) v = { a with tmps := a.tmps.setIfInBounds d v } := rfl
theorem zB (a : Act) (v : Value) : a.put none v = a := rfl
theorem zC {α : Type _} (l : List α) (i : Nat) (a : α) : l.toArray.setIfInBounds i a = (l.set i a).toArray := List.setIfInBounds_toArray l i a
theorem zD {α : Type _} {x : α} {xs : List α} {i : Nat} {a : α} : (x :: xs).set (i + 1) a = x :: xs.set i a := List.set_cons_succ
theorem zE {α : Type _} {x : α} {xs : List α} {a : α} : (x :: xs).set 0 a = a :: xs := List.set_cons_zero
theorem lt_of_cell {w : World} {b o : Nat} {v : Value} (h : w.cell? ⟨b, o, none⟩ = some v) : b < w.heap.size := by
 rcases Nat.lt_or_ge b w.heap.size with hlt | hge
 ·exact hlt
 ·simp [World.cell?, Array.getElem?_eq_none hge] at h

theorem lt_of_heap {w : World} {b : Nat} {o : Obj} (h : w.heap[b]? = some o) : b < w.heap.size := (Array.getElem?_eq_some_iff.1 h).1

theorem add_mk (b o j : Nat) : (⟨b, o, none⟩ : Addr).add j = ⟨b, o + j, none⟩ := by unfold Addr.add; split <;> simp_all

/-- The cells behind an address: nothing is asked where there are none. -/
def Cells (w : World) (A : Option Addr) (cs : List Value) : Prop :=
 0 < cs.length → ∃ b off, A = some ⟨b, off, none⟩ ∧ ∀ j v, cs[j]? = some v → w.cell? ⟨b, off + j, none⟩ = some v

section
variable {w w' : World} {A : Option Addr} {cs : List Value}
theorem Cells.nil : Cells w A [] := fun h => absurd h (by simp)
theorem Cells.keep (h : Cells w A cs) (hk : ∀ p : Addr, p.block < w.heap.size → w'.cell? p = w.cell? p) : Cells w' A cs := by
 intro h0
 obtain ⟨b, off, e, hc⟩ := h h0
 exact ⟨b, off, e, fun j v hv => (hk _ (lt_of_cell (hc j v hv))).trans (hc j v hv)⟩
theorem Cells.below (h : Cells w A cs) (hb : Below w.heap.size w w') : Cells w' A cs := h.keep fun _ hp => hb.cell hp
theorem Cells.grown {row : Option Nat} (h : Cells w A cs) (hg : w.grownBy w' row) (hne : ∀ a, A = some a → some a.block ≠ row) : Cells w' A cs := by
 intro h0
 obtain ⟨b, off, e, hc⟩ := h h0
 exact ⟨b, off, e, fun j v hv => hg.cell (hc j v hv) (fun h => hne _ e h)⟩
theorem Cells.alloc (h : Cells w A cs) (o : Obj) : Cells (w.alloc o) A cs := h.below ((Below.refl _ _).alloc (Nat.le_refl _) o)
theorem Cells.drew (h : Cells w A cs) : Cells w.drew A cs := h
theorem Cells.drewN (h : Cells w A cs) (n : Nat) : Cells (w.drewN n) A cs := h
theorem Cells.at_ (h : Cells w A cs) (h0 : 0 < cs.length) : ∃ b off, A = some ⟨b, off, none⟩ ∧ b < w.heap.size ∧ ∀ j v, cs[j]? = some v → w.cell? ⟨b, off + j, none⟩ = some v := by
 obtain ⟨b, off, e, hc⟩ := h h0
 exact ⟨b, off, e, lt_of_cell (hc 0 _ (List.getElem?_eq_getElem h0)), hc⟩
theorem Cells.take (h : Cells w A cs) (n : Nat) : Cells w A (cs.take n) := by
 intro h0
 obtain ⟨b, off, e, hc⟩ := h (by simp at h0; omega)
 refine ⟨b, off, e, fun j v hv => hc j v ?_⟩
 rw [List.getElem?_take] at hv
 split at hv
 ·exact hv
 ·cases hv
/-- the cells of a cut from place n on, whatever the cut's address is where nothing is left -/
theorem Cells.drop (h : Cells w A cs) {n : Nat} {A' : Option Addr} (hA : ∀ b off, n < cs.length → A = some ⟨b, off, none⟩ → A' = some ⟨b, off + n, none⟩) : Cells w A' (cs.drop n) := by
 intro h0
 have hl : n < cs.length := by simp at h0; omega
 obtain ⟨b, off, e, hc⟩ := h (by omega)
 refine ⟨b, off + n, hA b off hl e, fun j v hv => ?_⟩
 rw [Nat.add_assoc]
 exact hc (n + j) v (by rwa [List.getElem?_drop] at hv)
theorem Cells.of_own {base : Nat} {e : TypeId} {size n c : Nat} (h : w.ownsRow base e size (.slice A n c) n cs) : Cells w A cs := by
 intro h0
 rcases h.2 with ⟨hv, hn⟩ | ⟨g, cap, cur, hv, _, hg, hnc, _, hs, hx⟩
 ·have := h.1
  subst hn
  simp at this
  simp [this] at h0
 ·injection hv with hA
  refine ⟨g, 0, hA, fun j v hv => ?_⟩
  rw [← hx, List.getElem?_take] at hv
  split at hv
  ·simpa [World.cell?, hg] using hv
  ·cases hv
end

/-- Rows of structs: the cells of a list of things, each of which has 'size' cells. -/
theorem flat_length {α : Type} (f : α → List Value) (size : Nat) (hf : ∀ a, (f a).length = size) (l : List α) : (l.flatMap f).length = l.length * size := by
 induction l with
 | nil => simp
 | cons a l ih => simp [List.flatMap_cons, hf a, ih, Nat.add_mul]; omega

theorem flat_get {α : Type} (f : α → List Value) (size : Nat) (hf : ∀ a, (f a).length = size) (l : List α) (k j : Nat) (hj : j < size) :
  (l.flatMap f)[k * size + j]? = (l[k]?).bind fun a => (f a)[j]? := by
 induction l generalizing k with
 | nil => simp
 | cons a l ih =>
  rw [List.flatMap_cons]
  cases k with
  | zero => simp [List.getElem?_append_left (show j < (f a).length by rw [hf]; exact hj)]
  | succ k =>
   have e : (k + 1) * size + j = (f a).length + (k * size + j) := by rw [hf, Nat.add_mul]; omega
   rw [e, List.getElem?_append_right (by omega), Nat.add_sub_cancel_left, ih]
   simp

theorem flat_take {α : Type} (f : α → List Value) (size : Nat) (hf : ∀ a, (f a).length = size) (l : List α) (k : Nat) : (l.take k).flatMap f = (l.flatMap f).take (k * size) := by
 induction l generalizing k with
 | nil => simp
 | cons a l ih =>
  cases k with
  | zero => simp
  | succ k =>
   rw [List.take_succ_cons, List.flatMap_cons, List.flatMap_cons, ih, List.take_append, hf]
   have e : (k + 1) * size - size = k * size := by rw [Nat.add_mul]; omega
   rw [e, List.take_of_length_le (l := f a) (by rw [hf, Nat.add_mul]; omega)]

theorem flat_drop {α : Type} (f : α → List Value) (size : Nat) (hf : ∀ a, (f a).length = size) (l : List α) (k : Nat) : (l.drop k).flatMap f = (l.flatMap f).drop (k * size) := by
 induction l generalizing k with
 | nil => simp
 | cons a l ih =>
  cases k with
  | zero => simp
  | succ k =>
   rw [List.drop_succ_cons, List.flatMap_cons, ih, List.drop_append, hf]
   have e : (k + 1) * size - size = k * size := by rw [Nat.add_mul]; omega
   have h0 : (f a).drop ((k + 1) * size) = [] := List.drop_eq_nil_of_le (by rw [hf, Nat.add_mul]; omega)
   rw [e, h0]
   simp

theorem flat_one {α : Type} (f : α → List Value) (hf : ∀ a, ∀ u ∈ f a, u.oneCell' = true) (l : List α) : ∀ u ∈ l.flatMap f, u.oneCell' = true := by
 intro u hu
 obtain ⟨a, _, h⟩ := List.mem_flatMap.1 hu
 exact hf a u h

/- append onto a row of the call's own, the source nil, empty or not -/
section
variable {P : Program} (w : World)
theorem run_append_of_nil (base : Nat) (t ty e : TypeId) (i : TypeInfo) (size : Nat) (ht : P.underlying t = some (.slice e)) (hi : P.info? e = some i)
  (v : Value) (n : Nat) (xs : List Value) (hown : w.ownsRow base e size v n xs) (A : Option Addr) (c : Nat) : (Builtin.append_ #[t, t] ty #[v, .slice A 0 c]).run P w = .ok v w := by
 cases A with
 | none =>
  rcases hown.2 with ⟨rfl, rfl⟩ | ⟨g, cap, cur, rfl, _, _, hnc, _⟩
  ·simp [Builtin.append_, run_underlying ht, sizeOf, typeInfo, hi, Builtin.lenOf, Builtin.firstCells]
  ·simp [Builtin.append_, run_underlying ht, sizeOf, typeInfo, hi, Builtin.lenOf, Builtin.firstCells, hnc, storeCells]
 | some a =>
  have hl := run_loadCells_list (P := P) w a [] (by simp)
  rcases hown.2 with ⟨rfl, rfl⟩ | ⟨g, cap, cur, rfl, _, _, hnc, _⟩
  ·simp [Builtin.append_, run_underlying ht, sizeOf, typeInfo, hi, Builtin.lenOf, Builtin.firstCells] at hl ⊢
   simp [hl]
  ·simp [Builtin.append_, run_underlying ht, sizeOf, typeInfo, hi, Builtin.lenOf, Builtin.firstCells, hnc, storeCells] at hl ⊢
   simp [hl, storeCells]

theorem run_append_any (base : Nat) (t ty e : TypeId) (i : TypeInfo) (z : Value) (size bytes : Nat) (ht : P.underlying t = some (.slice e)) (hi : P.info? e = some i) (hz : i.zero = some z)
  (hsize : i.size = size) (hby : i.bytes = bytes) (hzs : z.cells.size = size) (hsz : 0 < size)
  (v : Value) (n : Nat) (xs : List Value) (hown : w.ownsRow base e size v n xs)
  (A : Option Addr) (m c : Nat) (news : List Value) (hl : news.length = m * size) (hr : Cells w A news) (h1 : ∀ u ∈ news, u.oneCell' = true)
  (h63 : n + m ≤ maxLen) (hbytes : (n + m) * bytes ≤ 140737488355328) (hbase : base ≤ w.heap.size) :
  ∃ v' w', (Builtin.append_ #[t, t] ty #[v, .slice A m c]).run P w = .ok v' w' ∧ w'.ownsRow base e size v' (n + m) (xs ++ news) ∧ w.grownBy w' v.ownBlock ∧
   (v'.ownBlock = v.ownBlock ∨ v'.ownBlock = some w.heap.size) := by
 rcases Nat.eq_zero_or_pos m with rfl | h0
 ·have hn : news = [] := List.eq_nil_of_length_eq_zero (by simpa using hl)
  subst hn
  exact ⟨v, w, run_append_of_nil w base t ty e i size ht hi v n xs hown A c, by simpa using hown, World.grownBy.refl w _, .inl rfl⟩
 ·obtain ⟨b, off, rfl, hc⟩ := hr (by rw [hl]; exact Nat.mul_pos h0 hsz)
  obtain ⟨v', w', hrun, h2, h3, _, h5⟩ := run_append_own_at (P := P) w base t ty e i z size bytes ht hi hz hsize hby hzs hsz v n xs hown ⟨b, off, none⟩ m c news hl
   (fun j u hu => by rw [add_mk]; exact hc j u hu) h1 h63 hbytes hbase
  exact ⟨v', w', hrun, h2, h3, h5⟩

theorem wp_append_any {o : Oper} {a : Act} {K : Act → World → Prop} {Q : Exit → Act → World → Prop} (s x : Operand) (t : TypeId)
  (ho : o.op = .call { callee := .builtin .append, args := #[s, x], argTypes := #[t, t] })
  (base : Nat) (e : TypeId) (i : TypeInfo) (z : Value) (size bytes : Nat) (ht : P.underlying t = some (.slice e)) (hi : P.info? e = some i) (hz : i.zero = some z)
  (hsize : i.size = size) (hby : i.bytes = bytes) (hzs : z.cells.size = size) (hsz : 0 < size)
  (v : Value) (n : Nat) (xs : List Value) (hs : a.eval s = v) (hown : w.ownsRow base e size v n xs)
  (A : Option Addr) (m c : Nat) (news : List Value) (hx : a.eval x = .slice A m c) (hl : news.length = m * size) (hr : Cells w A news) (h1 : ∀ u ∈ news, u.oneCell' = true)
  (h63 : n + m ≤ maxLen) (hbytes : (n + m) * bytes ≤ 140737488355328) (hbase : base ≤ w.heap.size)
  (h : ∀ v' w', w'.ownsRow base e size v' (n + m) (xs ++ news) → w.grownBy w' v.ownBlock → (v'.ownBlock = v.ownBlock ∨ v'.ownBlock = some w.heap.size) → K (a.put o.dst v') w') : o.wp P a w K Q := by
 obtain ⟨v', w', hrun, h2, h3, h4⟩ := run_append_any (P := P) w base t o.type e i z size bytes ht hi hz hsize hby hzs hsz v n xs hown A m c news hl hr h1 h63 hbytes hbase
 unfold Oper.wp execOp
 simp only [ho, resolve, invoke, builtin, Sem.run_bind, Sem.run_pure, Result.andThen_ok, List.map_toArray, List.map_cons, List.map_nil, hs, hx, hrun]
 exact h v' w' h2 h3 h4

theorem wpList_append_any {ops : Array Oper} {rest : List Oper} {o : Oper} {a : Act} {Q : Exit → Act → World → Prop} (hgd : o.guard = none) (s x : Operand) (t : TypeId)
  (ho : o.op = .call { callee := .builtin .append, args := #[s, x], argTypes := #[t, t] })
  (base : Nat) (e : TypeId) (i : TypeInfo) (z : Value) (size bytes : Nat) (ht : P.underlying t = some (.slice e)) (hi : P.info? e = some i) (hz : i.zero = some z)
  (hsize : i.size = size) (hby : i.bytes = bytes) (hzs : z.cells.size = size) (hsz : 0 < size)
  (v : Value) (n : Nat) (xs : List Value) (hs : a.eval s = v) (hown : w.ownsRow base e size v n xs)
  (A : Option Addr) (m c : Nat) (news : List Value) (hx : a.eval x = .slice A m c) (hl : news.length = m * size) (hr : Cells w A news) (h1 : ∀ u ∈ news, u.oneCell' = true)
  (h63 : n + m ≤ maxLen) (hbytes : (n + m) * bytes ≤ 140737488355328) (hbase : base ≤ w.heap.size)
  (h : ∀ v' w', w'.ownsRow base e size v' (n + m) (xs ++ news) → w.grownBy w' v.ownBlock → (v'.ownBlock = v.ownBlock ∨ v'.ownBlock = some w.heap.size) → wpList P ops Q rest (a.put o.dst v') w') : wpList P ops Q (o :: rest) a w :=
 wpList_plain hgd fun _ hK => wp_append_any w s x t ho base e i z size bytes ht hi hz hsize hby hzs hsz v n xs hs hown A m c news hx hl hr h1 h63 hbytes hbase fun v' w' h2 h3 h4 => hK _ _ (h v' w' h2 h3 h4)

theorem step_append_any {ops : Array Oper} {o : Oper} {a : Act} {K : Act → World → Prop} {Q : Exit → Act → World → Prop} {E : Prop} (hgd : o.guard = none) (s x : Operand) (t : TypeId)
  (ho : o.op = .call { callee := .builtin .append, args := #[s, x], argTypes := #[t, t] })
  (base : Nat) (e : TypeId) (i : TypeInfo) (z : Value) (size bytes : Nat) (ht : P.underlying t = some (.slice e)) (hi : P.info? e = some i) (hz : i.zero = some z)
  (hsize : i.size = size) (hby : i.bytes = bytes) (hzs : z.cells.size = size) (hsz : 0 < size)
  (v : Value) (n : Nat) (xs : List Value) (hs : a.eval s = v) (hown : w.ownsRow base e size v n xs)
  (A : Option Addr) (m c : Nat) (news : List Value) (hx : a.eval x = .slice A m c) (hl : news.length = m * size) (hr : Cells w A news) (h1 : ∀ u ∈ news, u.oneCell' = true)
  (h63 : n + m ≤ maxLen) (hbytes : (n + m) * bytes ≤ 140737488355328) (hbase : base ≤ w.heap.size)
  (h : ∀ v' w', w'.ownsRow base e size v' (n + m) (xs ++ news) → w.grownBy w' v.ownBlock → (v'.ownBlock = v.ownBlock ∨ v'.ownBlock = some w.heap.size) → K (a.put o.dst v') w') :
  if Region.wanted o (yielded ops a.tmps) = true then Oper.wp P o a w K Q else E := by
 have hw : Region.wanted o (yielded ops a.tmps) = true := by simp [Region.wanted, hgd]
 rw [if_pos hw]
 exact wp_append_any w s x t ho base e i z size bytes ht hi hz hsize hby hzs hsz v n xs hs hown A m c news hx hl hr h1 h63 hbytes hbase h

theorem own_empty {w : World} {g base : Nat} {e : TypeId} {size : Nat} (hb : base ≤ g) (h : w.heap[g]? = some (.cells #[] e (0, 0))) : w.ownsRow base e size (.slice (some ⟨g, 0, none⟩) 0 0) 0 [] :=
 ⟨by simp, .inr ⟨g, 0, #[], rfl, hb, h, Nat.le_refl _, by simp [maxLen], by simp, by simp⟩⟩

end


theorem below_setRow {B g : Nat} {w0 w : World} (hb : Below B w0 w) (hBg : B ≤ g) (cs : Array Value) : Below B w0 (w.setRow g cs) :=
 hb.trans ⟨rfl, rfl, rfl, by simp [World.setRow], fun k hk => setRow_other w g k cs (by omega)⟩

theorem below_only {w w' : World} (h : Below w.heap.size w w') {w2 : World} (k : Below w'.heap.size w' w2) : Below w.heap.size w w2 := h.trans (k.mono h.size)

/-- 'make([]T, n)' with a variable n: the new block written out -/
theorem wpList_make_row {P : Program} (w : World) {ops : Array Oper} {rest : List Oper} {o : Oper} {a : Act} {Q : Exit → Act → World → Prop}
  (hg : o.guard = none) (l c : Operand) (t : TypeId) (hop : o.op = Op.makeSlice t l c)
  (e : TypeId) (i : TypeInfo) (z : Value) (size bytes : Nat) (h1 : P.underlying t = some (.slice e)) (h2 : P.info? e = some i) (h3 : i.zero = some z) (h4 : i.size = size) (h5 : i.bytes = bytes)
  (L C : Int) (n : Nat) (hl : a.eval l = .int .i64 L) (hc : a.eval c = .int .i64 C) (hL : L = (n : Int)) (hC : C = (n : Int)) (b2 : bytes * n ≤ 281474976710656) (b3 : n ≤ 9223372036854775807)
  (hK : (madeCells z.cells (n * size)).size = n * size → wpList P ops Q rest (a.put o.dst (.slice (some ⟨w.heap.size, 0, none⟩) n n)) (w.alloc (.cells (madeCells z.cells (n * size)) e))) :
  wpList P ops Q (o :: rest) a w := by
 refine wpList_plain hg fun K hK' => ?_
 subst h4 h5 hL hC
 have hb : (i.bytes : Int) * (n : Int) ≤ 281474976710656 := by
  have h : ((i.bytes * n : Nat) : Int) ≤ 281474976710656 := by omega
  rwa [Int.natCast_mul] at h
 have hr := run_make (P := P) w t e i z h1 h2 h3 .i64 .i64 n n (by omega) (by omega) hb (by omega)
 simp only [Int.toNat_natCast] at hr
 unfold Oper.wp
 simp [execOp, hop, hl, hc, hr, Result.andThen]
 exact hK' _ _ (hK (by simp [madeCells]))

theorem row_set {w : World} {g i : Nat} {cur : Array Value} {t : TypeId} {fr : Nat × Nat} (h : w.heap[g]? = some (.cells cur t fr)) (v : Value) : (w.setCell ⟨g, i, none⟩ v).heap[g]? = some (.cells (cur.setIfInBounds i v) t fr) := by
 simp [World.setCell, Array.getElem?_modify, h]
theorem row_cell {w : World} {g : Nat} {cur : Array Value} {t : TypeId} {fr : Nat × Nat} (h : w.heap[g]? = some (.cells cur t fr)) (i : Nat) : w.cell? ⟨g, i, none⟩ = cur[i]? := by
 simp [World.cell?, h]
theorem row_frozen {w : World} {g : Nat} {cur : Array Value} {t : TypeId} (h : w.heap[g]? = some (.cells cur t (0, 0))) (i : Nat) : w.frozen? ⟨g, i, none⟩ = false := by
 simp [World.frozen?, h]
theorem row_new (w : World) (cs : Array Value) (t : TypeId) : (w.alloc (.cells cs t)).heap[w.heap.size]? = some (.cells cs t (0, 0)) := heap_alloc_new w _


theorem heap_at {w : World} {o : Obj} {g : Nat} (h : g = w.heap.size) : (w.alloc o).heap[g]? = some o := by
 subst h
 exact heap_alloc_new w o
theorem heap_old {w : World} {o o' : Obj} {g : Nat} (h : g < w.heap.size) (h' : w.heap[g]? = some o') : (w.alloc o).heap[g]? = some o' := (Below.heap_alloc w o g h).trans h'
theorem heap_drew {w : World} {o' : Obj} {g : Nat} (h' : w.heap[g]? = some o') : w.drew.heap[g]? = some o' := h'
theorem cells_two {w : World} {g : Nat} {u v : Value} (h0 : w.cell? ⟨g, 0, none⟩ = some u) (h1 : w.cell? ⟨g, 1, none⟩ = some v) : Cells w (some ⟨g, 0, none⟩) [u, v] := by
 intro _
 refine ⟨g, 0, rfl, fun j x hx => ?_⟩
 match j, hx with
 | 0, hx => simp at hx; subst hx; exact h0
 | 1, hx => simp at hx; subst hx; exact h1

/-- what a function leaves that hands back a row of its own: n elements whose cells are cs, in new memory -/
def NewRow (w : World) (n : Nat) (cs : List Value) (v : Value) (w' : World) : Prop :=
 ∃ A c, v = .slice A n c ∧ n ≤ c ∧ Cells w' A cs ∧ (∀ a, A = some a → w.heap.size ≤ a.block) ∧ Below w.heap.size w w'
theorem newRow_of_own {w w' : World} {base : Nat} {e : TypeId} {size n n' : Nat} {v : Value} {cs cs' : List Value} (h : w'.ownsRow base e size v n cs) (hn : n = n') (hc : cs = cs') (hB : w.heap.size ≤ base) (hb : Below w.heap.size w w') : NewRow w n' cs' v w' := by
 subst hn; subst hc
 rcases h.2 with ⟨rfl, hn⟩ | ⟨g, cap, cur, rfl, hg, _, hnc, _⟩
 ·subst hn
  exact ⟨none, 0, rfl, Nat.le_refl _, Cells.of_own h, by simp, hb⟩
 ·exact ⟨some ⟨g, 0, none⟩, cap, rfl, hnc, Cells.of_own h, fun a ha => by injection ha with ha; subst ha; exact Nat.le_trans hB hg, hb⟩
/-- the cells of a new row behind a store into an elder block -/
theorem Cells.setCell {w : World} {A : Option Addr} {cs : List Value} (h : Cells w A cs) {p : Addr} (hne : ∀ a, A = some a → a.block ≠ p.block) (u : Value) : Cells (w.setCell p u) A cs := by
 intro h0
 obtain ⟨b, off, rfl, hc⟩ := h h0
 exact ⟨b, off, rfl, fun j v hv => (World.cell?_of_block (Below.heap_setCell w p u b (hne _ rfl))).trans (hc j v hv)⟩

/-- of what lay in w nothing has turned: as one word, and as a rule for the cells -/
abbrev Old (w w' : World) : Prop := Below w.heap.size w w' ∧ ∀ b o, b < w.heap.size → w'.cell? ⟨b, o, none⟩ = w.cell? ⟨b, o, none⟩
theorem old_of {w w' : World} (h : Below w.heap.size w w') : Old w w' := ⟨h, fun b o hb => h.cell (p := ⟨b, o, none⟩) hb⟩

/-- a block that is known whole, kept over calls and new blocks -/
theorem row_below {w w' : World} {g : Nat} {o : Obj} (h : w.heap[g]? = some o) (hb : Below w.heap.size w w') : w'.heap[g]? = some o := (hb.block g (lt_of_heap h)).trans h
theorem row_alloc {w : World} {g : Nat} {o o' : Obj} (h : w.heap[g]? = some o) : (w.alloc o').heap[g]? = some o := heap_old (lt_of_heap h) h
theorem box1 {w : World} {g : Nat} {u : Value} {t : TypeId} (h : w.heap[g]? = some (.cells #[u] t (0, 0))) : w.cell? ⟨g, 0, none⟩ = some u ∧ w.frozen? ⟨g, 0, none⟩ = false := ⟨by rw [row_cell h]; rfl, row_frozen h 0⟩
theorem box2 {w : World} {g : Nat} {u v : Value} {t : TypeId} (h : w.heap[g]? = some (.cells #[u, v] t (0, 0))) :
  w.cell? ⟨g, 0, none⟩ = some u ∧ w.cell? ⟨g, 1, none⟩ = some v ∧ w.frozen? ⟨g, 0, none⟩ = false ∧ w.frozen? ⟨g, 1, none⟩ = false := ⟨by rw [row_cell h]; rfl, by rw [row_cell h]; rfl, row_frozen h 0, row_frozen h 1⟩
theorem box4 {w : World} {g : Nat} {u v x y : Value} {t : TypeId} (h : w.heap[g]? = some (.cells #[u, v, x, y] t (0, 0))) :
  w.cell? ⟨g, 0, none⟩ = some u ∧ w.cell? ⟨g, 1, none⟩ = some v ∧ w.cell? ⟨g, 2, none⟩ = some x ∧ w.cell? ⟨g, 3, none⟩ = some y ∧
   w.frozen? ⟨g, 0, none⟩ = false ∧ w.frozen? ⟨g, 1, none⟩ = false ∧ w.frozen? ⟨g, 2, none⟩ = false ∧ w.frozen? ⟨g, 3, none⟩ = false :=
 ⟨by rw [row_cell h]; rfl, by rw [row_cell h]; rfl, by rw [row_cell h]; rfl, by rw [row_cell h]; rfl, row_frozen h 0, row_frozen h 1, row_frozen h 2, row_frozen h 3⟩


end Go.Proofs.YtbijaloeilnjoaaGreat

namespace Go.Proofs.YtbijaloeilnjoaaGreat
open Go.RowKit Go.ChangeShapes Go.WideShapes Go.Deep

theorem list_of {α : Type} {P : Nat → α → Prop} (n : Nat) (h : ∀ i, i < n → ∃ a, P i a) : ∃ l : List α, l.length = n ∧ ∀ i a, l[i]? = some a → P i a := by
 induction n with
 | zero => exact ⟨[], rfl, by simp⟩
 | succ n ih =>
  obtain ⟨l, hl, hp⟩ := ih (fun i hi => h i (by omega))
  obtain ⟨a, ha⟩ := h n (by omega)
  refine ⟨l ++ [a], by simp [hl], fun i b hb => ?_⟩
  rcases Nat.lt_or_ge i n with hi | hi
  ·rw [List.getElem?_append_left (by omega)] at hb
   exact hp i b hb
  ·have hi' : i < (l ++ [a]).length := (List.getElem?_eq_some_iff.1 hb).1
   simp [hl] at hi'
   obtain rfl : i = n := by omega
   rw [List.getElem?_append_right (by omega), hl] at hb
   simp at hb
   subst hb
   exact ha

section
variable {H : Type} {enc : TypeId × Value → H} {P : Program} {w : World} {base : Nat} {spare : Nat → Bool} {held : Bool}
/-- A slice that came in, each element of 'size' cells: the list that it reads as. -/
theorem rows_of {α : Type} (f : α → List Value) (Q : α → Prop) {t e : TypeId} {fuel size n c : Nat} {A : Option Addr} {x : DataW H × List MemPlace} (hs0 : 0 < size) (hf : ∀ a, (f a).length = size)
  (ht : P.underlying t = some (.slice e)) (hC : P.cellsOf e = size) (hel : ∀ n cs y, DataW.trod enc P w base spare held n e cs = some y → ∃ a, cs = f a ∧ Q a)
  (h : DataW.trod enc P w base spare held fuel t [.slice A n c] = some x) :
  ∃ l : List α, l.length = n ∧ n ≤ c ∧ c ≤ maxLen ∧ Cells w A (l.flatMap f) ∧ ∀ a ∈ l, Q a := by
 rcases open_slice ht h with ⟨h0, _⟩ | ⟨a, len, cap, m, k, D, Pl, hcs, _, hl, hm, hmm, _, hi⟩
 ·injection h0 with h0
  injection h0 with hA hn hc
  subst hA; subst hn; subst hc
  exact ⟨[], rfl, Nat.le_refl _, by simp [maxLen], Cells.nil, by simp⟩
 ·injection hcs with hcs
  injection hcs with hA hn hc
  subst hA; subst hn; subst hc
  have hnm : n ≤ m := by rw [hmm]; split <;> omega
  obtain ⟨l, hlen, hp⟩ := list_of (P := fun i b => (∀ j v, (f b)[j]? = some v → w.cell? (a.add (i * size + j)) = some v) ∧ Q b) n (fun i him => by
   obtain ⟨cs', hc', ht'⟩ := hi i (by omega)
   rw [hC] at hc'
   obtain ⟨b, rfl, hq⟩ := hel _ _ _ ht'
   refine ⟨b, fun j v hv => ?_, hq⟩
   obtain ⟨_, hcl, hat⟩ := World.cells?_some hc'
   have hj : j < size := by rw [← hf b]; exact (List.getElem?_eq_some_iff.1 hv).1
   rw [← Go.Deep.add_add, hat j hj, hv])
  refine ⟨l, hlen, hl, hm, ?_, ?_⟩
  ·intro hpos
   rw [flat_length f size hf] at hpos
   have hl0 : 0 < l.length := Nat.pos_of_mul_pos_right hpos
   obtain ⟨b, o, spot⟩ := a
   obtain ⟨x0, hx0⟩ : ∃ x0, l[0]? = some x0 := ⟨_, List.getElem?_eq_getElem hl0⟩
   have h0 := (hp 0 x0 hx0).1 0 _ (List.getElem?_eq_getElem (by rw [hf]; exact hs0))
   have hspot : spot = none := by simpa [Addr.add] using World.cell?_spot h0
   subst hspot
   refine ⟨b, o, rfl, fun j v hv => ?_⟩
   have hjl : j < l.length * size := by rw [← flat_length f size hf]; exact (List.getElem?_eq_some_iff.1 hv).1
   have hdm : j / size * size + j % size = j := by rw [Nat.mul_comm]; exact Nat.div_add_mod j size
   have hg := flat_get f size hf l (j / size) (j % size) (Nat.mod_lt _ hs0)
   rw [hdm, hv] at hg
   cases hk : l[j / size]? with
   | none => rw [hk] at hg; simp at hg
   | some y =>
    rw [hk] at hg
    have := (hp _ y hk).1 (j % size) v (by simpa using hg.symm)
    rw [hdm, add_mk] at this
    exact this
  ·intro y hy
   obtain ⟨i, hi', he⟩ := List.getElem_of_mem hy
   exact (hp i y (by rw [List.getElem?_eq_getElem hi', he])).2


end

theorem wf_int {x : Int} (h : (Lit.int .i64 x).wf = true) : -9223372036854775808 ≤ x ∧ x ≤ 9223372036854775807 := by
 simpa [Lit.wf, IntKind.min, IntKind.max, IntKind.signed, IntKind.bits] using h
theorem wf_u8 {x : Int} (h : (Lit.int .u8 x).wf = true) : 0 ≤ x ∧ x ≤ 255 := by
 simpa [Lit.wf, IntKind.min, IntKind.max, IntKind.signed, IntKind.bits] using h

end Go.Proofs.YtbijaloeilnjoaaGreat

namespace Go.Proofs.YtbijaloeilnjoaaGreat
open Go.RowKit

theorem u64_mask (k : Nat) (x m : Int) (hk : k ≤ 63) (hm : m = 2 ^ k - 1) (h0 : 0 ≤ x) (h1 : x < 18446744073709551616) : bits .and .u64 x m = x % 2 ^ k := by
 obtain ⟨X, rfl⟩ := Int.eq_ofNat_of_zero_le h0
 have hp : (2 : Nat) ^ k ≤ 2 ^ 63 := Nat.pow_le_pow_right (by omega) hk
 have hp0 : 0 < (2 : Nat) ^ k := Nat.pow_pos (by omega)
 have hm' : m = ((2 ^ k - 1 : Nat) : Int) := by rw [hm, Int.natCast_sub (by omega)]; simp
 rw [hm', u64_and_nat X (2 ^ k - 1) (by omega) (by omega), Nat.and_two_pow_sub_one_eq_mod]
 simp
theorem u64_join (k : Nat) (x y : Int) (h0 : 0 ≤ x) (h1 : x < 2 ^ k) (h2 : 0 ≤ y) (h3 : y < 18446744073709551616) (h4 : y % 2 ^ k = 0) (h5 : x < 18446744073709551616) : bits .or .u64 x y = x + y := by
 obtain ⟨X, rfl⟩ := Int.eq_ofNat_of_zero_le h0
 obtain ⟨Y, rfl⟩ := Int.eq_ofNat_of_zero_le h2
 have h4' : Y % 2 ^ k = 0 := by
  have : ((Y % 2 ^ k : Nat) : Int) = 0 := by simpa using h4
  omega
 have h1' : X < 2 ^ k := by
  have : (X : Int) < ((2 ^ k : Nat) : Int) := by simpa using h1
  omega
 rw [u64_or_nat X Y (by omega) (by omega), Nat.or_comm, nat_join k Y X h4' h1']
 simp
 omega

theorem i64_mask (k : Nat) (x m : Int) (hk : k ≤ 62) (hm : m = 2 ^ k - 1) : bits .and .i64 x m = x % 2 ^ k := by
 have hp : (2 : Nat) ^ k ≤ 2 ^ 62 := Nat.pow_le_pow_right (by omega) hk
 have hp0 : 0 < (2 : Nat) ^ k := Nat.pow_pos (by omega)
 have hm' : m = ((2 ^ k - 1 : Nat) : Int) := by rw [hm, Int.natCast_sub (by omega)]; simp
 subst hm'
 show IntKind.i64.wrap ((BitVec.ofInt 64 x &&& BitVec.ofInt 64 ((2 ^ k - 1 : Nat) : Int)).toNat : Int) = _
 rw [BitVec.toNat_and]
 have e1 : (BitVec.ofInt 64 ((2 ^ k - 1 : Nat) : Int)).toNat = 2 ^ k - 1 := by
  rw [BitVec.ofInt_natCast, BitVec.toNat_ofNat]; exact Nat.mod_eq_of_lt (by omega)
 rw [e1, Nat.and_two_pow_sub_one_eq_mod, BitVec.toNat_ofInt]
 have hd : ((2 : Int) ^ k) ∣ ((2 ^ 64 : Nat) : Int) := by
  refine ⟨2 ^ (64 - k), ?_⟩
  rw [← Int.pow_add, show k + (64 - k) = 64 by omega]
  rfl
 have e2 : ((x % ((2 ^ 64 : Nat) : Int)).toNat % 2 ^ k : Nat) = (x % 2 ^ k : Int) := by
  have h0 : 0 ≤ x % ((2 ^ 64 : Nat) : Int) := Int.emod_nonneg _ (by decide)
  rw [Int.natCast_emod, Int.toNat_of_nonneg h0]
  rw [show (((2 ^ k : Nat)) : Int) = (2 : Int) ^ k by simp]
  exact Int.emod_emod_of_dvd x hd
 rw [e2]
 have hpp : (0 : Int) < (2 : Int) ^ k := by
  have h : (0 : Int) < ((2 ^ k : Nat) : Int) := by omega
  simpa using h
 have h1 : 0 ≤ x % (2 : Int) ^ k := Int.emod_nonneg _ (by omega)
 have h2 : x % (2 : Int) ^ k < 2 ^ k := Int.emod_lt_of_pos _ hpp
 have h3 : (2 : Int) ^ k ≤ 4611686018427387904 := by
  have : ((2 ^ k : Nat) : Int) ≤ ((2 ^ 62 : Nat) : Int) := by omega
  simpa using this
 exact IntWalk.i64_in _ (by omega)

theorem mask2 (x : Int) : bits .and .i64 x 3 = x % 4 := i64_mask 2 x 3 (by omega) rfl
theorem mask3 (x : Int) : bits .and .i64 x 7 = x % 8 := i64_mask 3 x 7 (by omega) rfl
theorem mask4 (x : Int) : bits .and .i64 x 15 = x % 16 := i64_mask 4 x 15 (by omega) rfl
theorem mask24 (x : Int) : bits .and .i64 x 16777215 = x % 16777216 := i64_mask 24 x 16777215 (by omega) rfl
theorem umask2 (x : Int) (h0 : 0 ≤ x) (h1 : x < 18446744073709551616) : bits .and .u64 x 3 = x % 4 := u64_mask 2 x 3 (by omega) rfl h0 h1
theorem umask8 (x : Int) (h0 : 0 ≤ x) (h1 : x < 18446744073709551616) : bits .and .u64 x 255 = x % 256 := u64_mask 8 x 255 (by omega) rfl h0 h1
theorem umask24 (x : Int) (h0 : 0 ≤ x) (h1 : x < 18446744073709551616) : bits .and .u64 x 16777215 = x % 16777216 := u64_mask 24 x 16777215 (by omega) rfl h0 h1

end Go.Proofs.YtbijaloeilnjoaaGreat

namespace Go.Proofs.YtbijaloeilnjoaaGreat
open Go.RowKit

theorem own_below {w w' : World} {B e size n : Nat} {v : Value} {xs : List Value} (h : w.ownsRow B e size v n xs) (hb : Below w.heap.size w w') : w'.ownsRow B e size v n xs := by
 refine ⟨h.1, ?_⟩
 rcases h.2 with h | ⟨g, cap, cur, h1, h2, h3, h4⟩
 ·exact .inl h
 ·exact .inr ⟨g, cap, cur, h1, h2, (hb.block g (lt_of_heap h3)).trans h3, h4⟩
theorem own_slice {w : World} {B e size n : Nat} {v : Value} {xs : List Value} (h : w.ownsRow B e size v n xs) : ∃ A c, v = .slice A n c ∧ n ≤ c ∧ c ≤ maxLen ∧ Cells w A xs := by
 rcases h.2 with ⟨rfl, rfl⟩ | ⟨g, cap, cur, rfl, _, _, hnc, hm, _⟩
 ·exact ⟨none, 0, rfl, Nat.le_refl _, Nat.zero_le _, Cells.of_own h⟩
 ·exact ⟨some ⟨g, 0, none⟩, cap, rfl, hnc, hm, Cells.of_own h⟩
theorem own_ge {w : World} {B e size n : Nat} {v : Value} {xs : List Value} (h : w.ownsRow B e size v n xs) : ∀ k, v.ownBlock = some k → B ≤ k := by
 intro k hk
 rcases h.2 with ⟨rfl, rfl⟩ | ⟨g, cap, cur, rfl, hg, _⟩
 ·simp [Value.ownBlock] at hk
 ·simp only [Value.ownBlock, Option.some.injEq] at hk
  omega

theorem row_four {w : World} {g : Nat} {a b c d a' b' c' d' : Value} {t : TypeId} (h : w.heap[g]? = some (.cells #[a, b, c, d] t (0, 0))) :
  ((((w.setCell ⟨g, 0, none⟩ a').setCell ⟨g, 1, none⟩ b').setCell ⟨g, 2, none⟩ c').setCell ⟨g, 3, none⟩ d').heap[g]? = some (.cells #[a', b', c', d'] t (0, 0)) := by
 have := row_set (i := 3) (row_set (i := 2) (row_set (i := 1) (row_set (i := 0) h a') b') c') d'
 simpa using this

end Go.Proofs.YtbijaloeilnjoaaGreat

namespace Go.Proofs.YtbijaloeilnjoaaGreat
open Go.RowKit

/-- all blocks of w but those of S are in w' as they were -/
structure Keep (S : List Nat) (w w' : World) : Prop where
 os : w'.os = w.os
 tape : w'.tape = w.tape
 output : w'.output = w.output
 size : w.heap.size ≤ w'.heap.size
 block : ∀ k, k < w.heap.size → k ∉ S → w'.heap[k]? = w.heap[k]?

section
variable {S T : List Nat} {w w' w'' : World}
theorem Keep.refl (S : List Nat) (w : World) : Keep S w w := ⟨rfl, rfl, rfl, Nat.le_refl _, fun _ _ _ => rfl⟩
theorem Keep.trans (h : Keep S w w') (k : Keep S w' w'') : Keep S w w'' :=
 ⟨k.os.trans h.os, k.tape.trans h.tape, k.output.trans h.output, Nat.le_trans h.size k.size, fun i hi hs => (k.block i (Nat.lt_of_lt_of_le hi h.size) hs).trans (h.block i hi hs)⟩
theorem Keep.mono (h : Keep S w w') (hs : ∀ k, k < w.heap.size → k ∈ S → k ∈ T) : Keep T w w' :=
 ⟨h.os, h.tape, h.output, h.size, fun i hi hn => h.block i hi (fun hm => hn (hs i hi hm))⟩
/-- what the second one turns is of what the first one laid, or of T -/
theorem Keep.then (h : Keep T w w') (k : Keep S w' w'') (hs : ∀ i, i < w.heap.size → i ∈ S → i ∈ T) : Keep T w w'' :=
 ⟨k.os.trans h.os, k.tape.trans h.tape, k.output.trans h.output, Nat.le_trans h.size k.size, fun i hi hn => (k.block i (Nat.lt_of_lt_of_le hi h.size) (fun hm => hn (hs i hi hm))).trans (h.block i hi hn)⟩
theorem Keep.drew (h : Keep S w w') : Keep S w w'.drew := ⟨h.os, h.tape, h.output, h.size, h.block⟩
theorem Keep.drewN (h : Keep S w w') (n : Nat) : Keep S w (w'.drewN n) := ⟨h.os, h.tape, h.output, h.size, h.block⟩
theorem Keep.alloc (h : Keep S w w') (o : Obj) : Keep S w (w'.alloc o) :=
 h.trans ⟨rfl, rfl, rfl, by simp, fun k hk _ => Below.heap_alloc _ _ _ hk⟩
theorem Keep.setCell (h : Keep S w w') {p : Addr} (hp : p.block ∈ S ∨ w.heap.size ≤ p.block) (u : Value) : Keep S w (w'.setCell p u) :=
 ⟨h.os, h.tape, h.output, Nat.le_trans h.size (by simp [World.setCell]), fun i hi hs => (Below.heap_setCell _ _ _ _ (fun e => by
  subst e
  rcases hp with hp | hp
  ·exact hs hp
  ·omega)).trans (h.block i hi hs)⟩
theorem Keep.setRow (h : Keep S w w') {g : Nat} (hp : g ∈ S ∨ w.heap.size ≤ g) (cs : Array Value) : Keep S w (w'.setRow g cs) :=
 ⟨h.os, h.tape, h.output, Nat.le_trans h.size (by simp [World.setRow]), fun i hi hs => (setRow_other _ _ _ _ (fun e => by
  subst e
  rcases hp with hp | hp
  ·exact hs hp
  ·omega)).trans (h.block i hi hs)⟩
theorem Below.keep (h : Below w.heap.size w w') (S : List Nat) : Keep S w w' := ⟨h.os, h.tape, h.output, h.size, fun k hk _ => h.block k hk⟩
theorem keep_below (h : Below w.heap.size w w') (S : List Nat) : Keep S w w' := ⟨h.os, h.tape, h.output, h.size, fun k hk _ => h.block k hk⟩
theorem Keep.call (h : Keep S w w') (hb : Below w'.heap.size w' w'') : Keep S w w'' := h.trans (keep_below hb S)
theorem Keep.grown {row : Option Nat} (h : Keep S w w') (hg : w'.grownBy w'' row) (hr : ∀ k, row = some k → k ∈ S ∨ w.heap.size ≤ k) : Keep S w w'' :=
 ⟨hg.os.trans h.os, hg.tape.trans h.tape, hg.output.trans h.output, Nat.le_trans h.size hg.size, fun i hi hs => (hg.block i (Nat.lt_of_lt_of_le hi h.size) (fun e => by
  rcases hr i e.symm with hm | hm
  ·exact hs hm
  ·omega)).trans (h.block i hi hs)⟩
/-- all that is turned is of the call's own -/
theorem Keep.under {B : Nat} {a : World} (h : Below B a w) (k : Keep S w w') (hB : B ≤ w.heap.size) (hs : ∀ i ∈ S, B ≤ i) : Below B a w' :=
 h.trans ⟨k.os, k.tape, k.output, k.size, fun i hi => k.block i (by omega) (fun hm => by have := hs i hm; omega)⟩
theorem Keep.row {g : Nat} {o : Obj} (k : Keep S w w') (h : w.heap[g]? = some o) (hn : g ∉ S) : w'.heap[g]? = some o := (k.block g (lt_of_heap h) hn).trans h
theorem Keep.cell {p : Addr} {v : Value} (k : Keep S w w') (h : w.cell? p = some v) (hn : p.block ∉ S) : w'.cell? p = some v :=
 (World.cell?_of_block (w := w) (k.block p.block (World.block_lt_of_cell? w p h) hn)).trans h
theorem Cells.kept {A : Option Addr} {cs : List Value} (h : Cells w A cs) (k : Keep S w w') (hn : ∀ a, A = some a → a.block ∉ S) : Cells w' A cs := by
 intro h0
 obtain ⟨b, off, rfl, hc⟩ := h h0
 have hb := hn ⟨b, off, none⟩ rfl
 exact ⟨b, off, rfl, fun j v hv => k.cell (p := ⟨b, off + j, none⟩) (hc j v hv) hb⟩
theorem own_kept {B e size n : Nat} {v : Value} {xs : List Value} (h : w.ownsRow B e size v n xs) (k : Keep S w w') (hn : ∀ i, v.ownBlock = some i → i ∉ S) : w'.ownsRow B e size v n xs := by
 refine ⟨h.1, ?_⟩
 rcases h.2 with h | ⟨g, cap, cur, rfl, h2, h3, h4⟩
 ·exact .inl h
 ·exact .inr ⟨g, cap, cur, rfl, h2, k.row h3 (hn g (by simp [Value.ownBlock])), h4⟩
end


theorem box3 {w : World} {g : Nat} {u v x : Value} {t : TypeId} (h : w.heap[g]? = some (.cells #[u, v, x] t (0, 0))) :
  w.cell? ⟨g, 0, none⟩ = some u ∧ w.cell? ⟨g, 1, none⟩ = some v ∧ w.cell? ⟨g, 2, none⟩ = some x ∧
   w.frozen? ⟨g, 0, none⟩ = false ∧ w.frozen? ⟨g, 1, none⟩ = false ∧ w.frozen? ⟨g, 2, none⟩ = false :=
 ⟨by rw [row_cell h]; rfl, by rw [row_cell h]; rfl, by rw [row_cell h]; rfl, row_frozen h 0, row_frozen h 1, row_frozen h 2⟩

theorem own_mono {w : World} {B B' e size n : Nat} {v : Value} {xs : List Value} (h : w.ownsRow B' e size v n xs) (hB : B ≤ B') : w.ownsRow B e size v n xs := by
 refine ⟨h.1, ?_⟩
 rcases h.2 with h | ⟨g, cap, cur, h1, h2, h3, h4⟩
 ·exact .inl h
 ·exact .inr ⟨g, cap, cur, h1, Nat.le_trans hB h2, h3, h4⟩

theorem row_grown {w w' : World} {g : Nat} {o : Obj} {row : Option Nat} (h : w.heap[g]? = some o) (hg : w.grownBy w' row) (hn : row ≠ some g) : w'.heap[g]? = some o :=
 (hg.block g (lt_of_heap h) (fun e => hn e.symm)).trans h

theorem own_of_row {w : World} {g base n c size : Nat} {e : TypeId} {cur : Array Value} (hg : w.heap[g]? = some (.cells cur e (0, 0))) (hb : base ≤ g) (hn : n ≤ c) (hc : cur.size = c * size) (hm : c ≤ maxLen) :
  w.ownsRow base e size (.slice (some ⟨g, 0, none⟩) n c) n (cur.toList.take (n * size)) :=
 ⟨by simp only [List.length_take, Array.length_toList, hc]; exact Nat.min_eq_left (Nat.mul_le_mul_right _ hn), .inr ⟨g, c, cur, rfl, hb, hg, hn, hm, hc, rfl⟩⟩
theorem own_all {w : World} {g base n size : Nat} {e : TypeId} {cs : List Value} (hg : w.heap[g]? = some (.cells cs.toArray e (0, 0))) (hb : base ≤ g) (hc : cs.length = n * size) (hm : n ≤ maxLen) :
  w.ownsRow base e size (.slice (some ⟨g, 0, none⟩) n n) n cs := by
 have := own_of_row (size := size) hg hb (Nat.le_refl n) (by simpa using hc) hm
 rwa [List.take_of_length_le (by simp [hc])] at this

theorem own_take {w : World} {g base n c size : Nat} {e : TypeId} {cs xs : List Value} (hg : w.heap[g]? = some (.cells cs.toArray e (0, 0))) (hb : base ≤ g) (hn : n ≤ c) (hc : cs.length = c * size) (hx : cs.take (n * size) = xs) (hm : c ≤ maxLen) :
  w.ownsRow base e size (.slice (some ⟨g, 0, none⟩) n c) n xs := by
 have := own_of_row (size := size) hg hb hn (by simpa using hc) hm
 rw [← hx]
 simpa using this

/- append where there is room, into a row that is known whole; the source nil, empty or not -/
section
variable {P : Program} (w : World)
theorem run_append_in (t ty e : TypeId) (i : TypeInfo) (size : Nat) (ht : P.underlying t = some (.slice e)) (hi : P.info? e = some i) (hsize : i.size = size)
  (g n cap : Nat) (cur : Array Value) (hg : w.heap[g]? = some (.cells cur e (0, 0))) (A : Option Addr) (m c : Nat) (news : List Value) (hl : news.length = m * size) (hsz : 0 < size) (hr : Cells w A news) (h1 : ∀ u ∈ news, u.oneCell' = true)
  (hroom : n + m ≤ cap) (hfit : n * size + news.length ≤ cur.size) :
  ∃ w', (Builtin.append_ #[t, t] ty #[.slice (some ⟨g, 0, none⟩) n cap, .slice A m c]).run P w = .ok (.slice (some ⟨g, 0, none⟩) (n + m) cap) w' ∧
   w'.heap[g]? = some (.cells (cur.toList.take (n * size) ++ (news ++ cur.toList.drop (n * size + news.length))).toArray e (0, 0)) ∧ w.grownBy w' (some g) := by
 subst hsize
 rcases Nat.eq_zero_or_pos m with rfl | h0
 ·obtain rfl : news = [] := List.eq_nil_of_length_eq_zero (by simpa using hl)
  refine ⟨w, ?_, ?_, World.grownBy.refl w _⟩
  ·cases A with
   | none => simp [Builtin.append_, run_underlying ht, sizeOf, typeInfo, hi, Builtin.lenOf, Builtin.firstCells, show n ≤ cap by omega, storeCells]
   | some a =>
    have hl := run_loadCells_list (P := P) w a [] (by simp)
    simp [Builtin.append_, run_underlying ht, sizeOf, typeInfo, hi, Builtin.lenOf, Builtin.firstCells, show n ≤ cap by omega, storeCells] at hl ⊢
    simp [hl, storeCells]
  ·simpa using hg
 ·obtain ⟨b, off, rfl, hc⟩ := hr (by rw [hl]; exact Nat.mul_pos h0 hsz)
  refine ⟨_, run_append_room (P := P) w t ty e i ht hi g n cap cur hg ⟨b, off, none⟩ m c news hl (fun j u hu => by rw [add_mk]; exact hc j u hu) h1 hroom hfit, ?_, ?_⟩
  ·rw [List.append_assoc]
   exact setRow_heap w g cur _ e _ hg
  ·exact ⟨rfl, rfl, rfl, by simp [World.setRow], fun k _ hne => setRow_other w g k _ (fun e => hne (by rw [e]))⟩

theorem step_append_in {ops : Array Oper} {o : Oper} {a : Act} {K : Act → World → Prop} {Q : Exit → Act → World → Prop} {E : Prop} (hgd : o.guard = none) (s x : Operand) (t : TypeId)
  (ho : o.op = .call { callee := .builtin .append, args := #[s, x], argTypes := #[t, t] }) (e : TypeId) (i : TypeInfo) (size : Nat) (ht : P.underlying t = some (.slice e)) (hi : P.info? e = some i) (hsize : i.size = size) (hsz : 0 < size)
  (g n cap : Nat) (cur : Array Value) (hs : a.eval s = .slice (some ⟨g, 0, none⟩) n cap) (hg : w.heap[g]? = some (.cells cur e (0, 0))) (A : Option Addr) (m c : Nat) (hx : a.eval x = .slice A m c) (news : List Value) (hl : news.length = m * size) (hr : Cells w A news) (h1 : ∀ u ∈ news, u.oneCell' = true)
  (hroom : n + m ≤ cap) (hfit : n * size + news.length ≤ cur.size)
  (h : ∀ w', w'.heap[g]? = some (.cells (cur.toList.take (n * size) ++ (news ++ cur.toList.drop (n * size + news.length))).toArray e (0, 0)) → w.grownBy w' (some g) → K (a.put o.dst (.slice (some ⟨g, 0, none⟩) (n + m) cap)) w') :
  if Region.wanted o (yielded ops a.tmps) = true then Oper.wp P o a w K Q else E := by
 have hw : Region.wanted o (yielded ops a.tmps) = true := by simp [Region.wanted, hgd]
 rw [if_pos hw]
 obtain ⟨w', hrun, h2, h3⟩ := run_append_in (P := P) w t o.type e i size ht hi hsize g n cap cur hg A m c news hl hsz hr h1 hroom hfit
 unfold Oper.wp execOp
 simp only [ho, resolve, invoke, builtin, Sem.run_bind, Sem.run_pure, Result.andThen_ok, List.map_toArray, List.map_cons, List.map_nil, hs, hx, hrun]
 exact h w' h2 h3

theorem run_clear_row (t e ty : TypeId) (z : Value) (ht : P.underlying t = some (.slice e)) (hv : (zeroValue e).run P w = .ok z w) (g o n c : Nat) (cur : Array Value) (hg : w.heap[g]? = some (.cells cur e (0, 0))) (hn : 0 < n)
  (hfit : o + n * z.cells.size ≤ cur.size) (h1 : ∀ u ∈ (Builtin.zeroCells z.cells n).toList, u.oneCell' = true) :
  (Builtin.clear_ #[t] ty #[.slice (some ⟨g, o, none⟩) n c]).run P w = .ok (.tuple #[]) (w.setRow g (cur.toList.take o ++ (Builtin.zeroCells z.cells n).toList ++ cur.toList.drop (o + n * z.cells.size)).toArray) := by
 have hst := run_storeCells_at P g o e (Builtin.zeroCells z.cells n).toList 0 cur w hg (by simpa [size_zeroCells] using hfit) h1
 simp only [Nat.add_zero] at hst
 obtain ⟨m, rfl⟩ : ∃ m, n = m + 1 := ⟨n - 1, by omega⟩
 simp [Builtin.clear_, run_underlying ht, hv, hst, size_zeroCells]

theorem wpList_clear_in {ops : Array Oper} {rest : List Oper} {o : Oper} {a : Act} {Q : Exit → Act → World → Prop} (hgd : o.guard = none) (x : Operand) (t : TypeId)
  (ho : o.op = .call { callee := .builtin .clear, args := #[x], argTypes := #[t] }) (e : TypeId) (z : Value) (ht : P.underlying t = some (.slice e)) (hv : (zeroValue e).run P w = .ok z w)
  (g off n c : Nat) (cur : List Value) (hx : a.eval x = .slice (some ⟨g, off, none⟩) n c) (hg : w.heap[g]? = some (.cells cur.toArray e (0, 0))) (hn : 0 < n) (hfit : off + n * z.cells.size ≤ cur.length) (h1 : ∀ u ∈ (Builtin.zeroCells z.cells n).toList, u.oneCell' = true)
  (h : ∀ w', w'.heap[g]? = some (.cells (cur.take off ++ ((Builtin.zeroCells z.cells n).toList ++ cur.drop (off + n * z.cells.size))).toArray e (0, 0)) → w.grownBy w' (some g) → wpList P ops Q rest (a.put o.dst (.tuple #[])) w') :
  wpList P ops Q (o :: rest) a w := by
 refine wpList_plain hgd fun K hK => ?_
 have hrun := run_clear_row (P := P) w t e o.type z ht hv g off n c cur.toArray hg hn (by simpa using hfit) h1
 unfold Oper.wp execOp
 simp only [ho, resolve, invoke, builtin, Sem.run_bind, Sem.run_pure, Result.andThen_ok, List.map_toArray, List.map_cons, List.map_nil, hx, hrun]
 refine hK _ _ (h _ ?_ ?_)
 ·rw [← List.append_assoc]
  exact setRow_heap w g _ _ e _ hg
 ·exact ⟨rfl, rfl, rfl, by simp [World.setRow], fun k _ hne => setRow_other w g k _ (fun e => hne (by rw [e]))⟩
end

end Go.Proofs.YtbijaloeilnjoaaGreat

namespace Go.Proofs.YtbijaloeilnjoaaGreat
open Go.RowKit

abbrev Ent := Int × Bool
def entCells (e : Ent) : List Value := [.int .i64 e.1, .bool e.2]
theorem entCells_length (e : Ent) : (entCells e).length = 2 := rfl
theorem entCells_one (e : Ent) : ∀ u ∈ entCells e, u.oneCell' = true := by
 intro u hu
 simp only [entCells, List.mem_cons, List.not_mem_nil, or_false] at hu
 rcases hu with rfl | rfl <;> rfl

/-- a slice value's address has the cells of these entries behind it -/
def Ents (w : World) (A : Option Addr) (l : List Ent) : Prop := Cells w A (l.flatMap entCells)

section
variable {w w' : World} {A : Option Addr} {l : List Ent}
theorem ents_len (l : List Ent) : (l.flatMap entCells).length = l.length * 2 := flat_length entCells 2 entCells_length l
theorem Ents.nil : Ents w A [] := Cells.nil
theorem Ents.below (h : Ents w A l) (hb : Below w.heap.size w w') : Ents w' A l := Cells.below h hb
theorem Ents.take (h : Ents w A l) (n : Nat) : Ents w A (l.take n) := by
 unfold Ents
 rw [flat_take entCells 2 entCells_length]
 exact Cells.take h _
theorem Ents.at_ (h : Ents w A l) (h0 : 0 < l.length) : ∃ b off, A = some ⟨b, off, none⟩ ∧ b < w.heap.size ∧
  ∀ k s c, l[k]? = some (s, c) → w.cell? ⟨b, off + k * 2, none⟩ = some (.int .i64 s) ∧ w.cell? ⟨b, off + k * 2 + 1, none⟩ = some (.bool c) := by
 obtain ⟨b, off, e, hb, hc⟩ := Cells.at_ h (by rw [ents_len]; omega)
 refine ⟨b, off, e, hb, fun k s c hk => ?_⟩
 have h1 := hc (k * 2 + 0) (.int .i64 s) (by rw [flat_get entCells 2 entCells_length l k 0 (by omega), hk]; rfl)
 have h2 := hc (k * 2 + 1) (.bool c) (by rw [flat_get entCells 2 entCells_length l k 1 (by omega), hk]; rfl)
 exact ⟨by simpa using h1, by rw [Nat.add_assoc]; exact h2⟩
end

def area (l : List Ent) : Int := match l.getLast? with | none => 0 | some (s, _) => s

def idx (v : Ent) : List Ent → Int
 | [] => -1
 | a :: l => if a = v then 0 else if idx v l < 0 then -1 else idx v l + 1





def reach (l : List Ent) (s : Int) : Bool := s == 0 || decide (0 ≤ idx (s, true) l)
def par (l : List Ent) (s : Int) : Int := if idx (s, true) l < 0 then -1 else area (l.take (idx (s, true) l).toNat)
def up (l : List Ent) (s : Int) : Nat → Int → Bool
 | 0, _ => false
 | n + 1, b => b == s || up l s n (par l b)
def above (l : List Ent) (s b : Int) : Bool := s == 0 || up l s 9 b
def push (l : List Ent) (e : Ent) : List Ent × Int := if 6 ≤ l.length then ([], 24) else (l ++ [e], 0)


end Go.Proofs.YtbijaloeilnjoaaGreat

namespace Go.Proofs.YtbijaloeilnjoaaGreat
open Go.RowKit

structure Ctl where
 st : Int
 n : Int
 p : Int
 ep : Int

abbrev Ctl.cells (c : Ctl) : List Value := [.int .i64 c.st, .int .i64 c.n, .int .i64 c.p, .int .i64 c.ep]
abbrev Ctl.val (c : Ctl) : Value := .agg #[.int .i64 c.st, .int .i64 c.n, .int .i64 c.p, .int .i64 c.ep]

theorem Ctl.ext_ {a b : Ctl} (h1 : a.st = b.st) (h2 : a.n = b.n) (h3 : a.p = b.p) (h4 : a.ep = b.ep) : a = b := by
 cases a; cases b; simp_all

def Right (c : Ctl) : Prop := 0 ≤ c.ep ∧ c.ep ≤ 16777215 ∧ ((c.st = 0 ∨ c.st = 1) ∧ c.n = 0 ∧ c.p = -1 ∨ c.st = 2 ∧ 1 ≤ c.n ∧ c.n ≤ 7 ∧ -1 ≤ c.p ∧ c.p ≤ 7 ∨ c.st = 3 ∧ c.n = 0 ∧ -1 ≤ c.p ∧ c.p ≤ 7)
instance (c : Ctl) : Decidable (Right c) := by unfold Right; infer_instance

/-- tests as Booleans behind a name, so that the walk leaves them whole -/
def inB (n lo hi : Int) : Bool := decide (lo ≤ n ∧ n ≤ hi)
theorem inB_t {n lo hi : Int} (h : lo ≤ n ∧ n ≤ hi) : inB n lo hi = true := decide_eq_true h
theorem inB_f {n lo hi : Int} (h : ¬ (lo ≤ n ∧ n ≤ hi)) : inB n lo hi = false := decide_eq_false h
def rightB (c : Ctl) : Bool := decide (Right c)
theorem rightB_t {c : Ctl} (h : Right c) : rightB c = true := decide_eq_true h
theorem rightB_f {c : Ctl} (h : ¬ Right c) : rightB c = false := decide_eq_false h

def noCtl : Ctl := ⟨0, 0, 0, 0⟩
def word (c : Ctl) : Int := c.st + 4 * c.n + 1024 * (c.p + 1) + 262144 * c.ep
def told (w : Int) : Ctl := ⟨w % 4, w / 4 % 256, w / 1024 % 256 - 1, w / 262144 % 16777216⟩
def pack (c : Ctl) : Int × Int := if Right c then (word c, 0) else (0, 1)
def unpack (w : Int) : Ctl × Int := if Right (told w) ∧ w < 4398046511104 then (told w, 0) else (noCtl, 1)
def enter (c : Ctl) (from_ : Int) : Ctl × Int :=
 if ¬ (Right c ∧ 0 ≤ from_ ∧ from_ ≤ 7) then (noCtl, 1)
 else if c.st = 0 then (noCtl, 11)
 else if c.st = 3 then (noCtl, 10)
 else if c.st = 1 then (⟨2, 1, from_, c.ep⟩, 0)
 else if c.p ≠ from_ then (noCtl, 15)
 else if c.n = 7 then (noCtl, 16)
 else (⟨c.st, c.n + 1, c.p, c.ep⟩, 0)
def ofState (c : Ctl) (st : Int) : Int := if ¬ Right c then 1 else if c.st ≠ st then 11 else 0
def leave (c : Ctl) : Ctl × Int := if ofState c 2 ≠ 0 then (noCtl, ofState c 2) else (⟨if c.n = 1 then 3 else c.st, c.n - 1, c.p, c.ep⟩, 0)
def openC (c : Ctl) : Ctl × Int := if ofState c 3 ≠ 0 then (noCtl, ofState c 3) else (⟨1, 0, -1, (c.ep + 1) % 16777216⟩, 0)
def hold (c : Ctl) : Ctl × Int := if ofState c 3 ≠ 0 then (noCtl, ofState c 3) else (⟨2, 1, c.p, c.ep⟩, 0)

theorem right_word {c : Ctl} (h : Right c) : 0 ≤ word c ∧ word c < 4398046511104 ∧ told (word c) = c := by
 obtain ⟨h1, h2, h3⟩ := h
 have hb : 0 ≤ c.st ∧ c.st ≤ 3 ∧ 0 ≤ c.n ∧ c.n ≤ 7 ∧ -1 ≤ c.p ∧ c.p ≤ 7 := by omega
 obtain ⟨a1, a2, a3, a4, a5, a6⟩ := hb
 unfold word
 refine ⟨by omega, by omega, ?_⟩
 refine Ctl.ext_ ?_ ?_ ?_ ?_ <;> simp only [told] <;> omega

theorem word_told {w : Int} (h0 : 0 ≤ w) (h1 : w < 4398046511104) : word (told w) = w := by
 simp only [word, told]
 omega

theorem right_bd {c : Ctl} (h : Right c) : 0 ≤ c.st ∧ c.st ≤ 3 ∧ 0 ≤ c.n ∧ c.n ≤ 7 ∧ -1 ≤ c.p ∧ c.p ≤ 7 ∧ 0 ≤ c.ep ∧ c.ep ≤ 16777215 := by
 obtain ⟨h1, h2, h3⟩ := h
 omega

end Go.Proofs.YtbijaloeilnjoaaGreat
