/- Words of our own for memory: cells behind a slice value, rows of structs, append and copy of rows of any width, and small lemmas that close the walks. No program in sight. -/
import Derived.Test.YtconieenkeajiaaRows
import Derived.Handy
import Derived.WalkKit
import Derived.WalkSpells
import Derived.WalkLawsBesides
import Derived.Deep.QuietTactic
import Derived.BigQuiet
import Derived.Lib.Hide
import Derived.Laws.CopyRow
import Derived.Maps.AppendAt
import Derived.Deep.AppendLies
namespace Go.Proofs.Ytconieenkeajiaa
open Go.RowKit

theorem lt_of_cell {w : World} {b o : Nat} {v : Value} (h : w.cell? ⟨b, o, none⟩ = some v) : b < w.heap.size := by
  rcases Nat.lt_or_ge b w.heap.size with hlt | hge
  · exact hlt
  · simp [World.cell?, Array.getElem?_eq_none hge] at h

theorem lt_of_heap {w : World} {b : Nat} {o : Obj} (h : w.heap[b]? = some o) : b < w.heap.size := (Array.getElem?_eq_some_iff.1 h).1

theorem add_mk (b o j : Nat) : (⟨b, o, none⟩ : Addr).add j = ⟨b, o + j, none⟩ := by unfold Addr.add; split <;> simp_all

/-- The cells behind an address: nothing is asked where there are none. -/
def Cells (w : World) (A : Option Addr) (cs : List Value) : Prop :=
  0 < cs.length → ∃ b off, A = some ⟨b, off, none⟩ ∧ ∀ j v, cs[j]? = some v → w.cell? ⟨b, off + j, none⟩ = some v

section
variable {w w' : World} {A : Option Addr} {cs : List Value}
theorem Cells.nil : Cells w A [] := fun h => absurd h (by simp)
theorem Cells.keep (h : Cells w A cs) (hk : ∀ p : Addr, p.block < w.heap.size → w'.cell? p = w.cell? p) : Cells w' A cs := by
  intro h0
  obtain ⟨b, off, e, hc⟩ := h h0
  exact ⟨b, off, e, fun j v hv => (hk _ (lt_of_cell (hc j v hv))).trans (hc j v hv)⟩
theorem Cells.below (h : Cells w A cs) (hb : Below w.heap.size w w') : Cells w' A cs := h.keep fun _ hp => hb.cell hp
theorem Cells.grown {row : Option Nat} (h : Cells w A cs) (hg : w.grownBy w' row) (hne : ∀ a, A = some a → some a.block ≠ row) : Cells w' A cs := by
  intro h0
  obtain ⟨b, off, e, hc⟩ := h h0
  exact ⟨b, off, e, fun j v hv => hg.cell (hc j v hv) (fun h => hne _ e h)⟩
theorem Cells.alloc (h : Cells w A cs) (o : Obj) : Cells (w.alloc o) A cs := h.below ((Below.refl _ _).alloc (Nat.le_refl _) o)
theorem Cells.drew (h : Cells w A cs) : Cells w.drew A cs := h
theorem Cells.drewN (h : Cells w A cs) (n : Nat) : Cells (w.drewN n) A cs := h
theorem Cells.at_ (h : Cells w A cs) (h0 : 0 < cs.length) : ∃ b off, A = some ⟨b, off, none⟩ ∧ b < w.heap.size ∧ ∀ j v, cs[j]? = some v → w.cell? ⟨b, off + j, none⟩ = some v := by
  obtain ⟨b, off, e, hc⟩ := h h0
  exact ⟨b, off, e, lt_of_cell (hc 0 _ (List.getElem?_eq_getElem h0)), hc⟩
theorem Cells.take (h : Cells w A cs) (n : Nat) : Cells w A (cs.take n) := by
  intro h0
  obtain ⟨b, off, e, hc⟩ := h (by simp at h0; omega)
  refine ⟨b, off, e, fun j v hv => hc j v ?_⟩
  rw [List.getElem?_take] at hv
  split at hv
  · exact hv
  · cases hv
/-- the cells of a cut from place n on, whatever the cut's address is where nothing is left -/
theorem Cells.drop (h : Cells w A cs) {n : Nat} {A' : Option Addr} (hA : ∀ b off, n < cs.length → A = some ⟨b, off, none⟩ → A' = some ⟨b, off + n, none⟩) : Cells w A' (cs.drop n) := by
  intro h0
  have hl : n < cs.length := by simp at h0; omega
  obtain ⟨b, off, e, hc⟩ := h (by omega)
  refine ⟨b, off + n, hA b off hl e, fun j v hv => ?_⟩
  rw [Nat.add_assoc]
  exact hc (n + j) v (by rwa [List.getElem?_drop] at hv)
theorem Cells.of_row {g off : Nat} {cur : Array Value} {t : TypeId} {fr : Nat × Nat} (hg : w.heap[g]? = some (.cells cur t fr)) (hc : ∀ j v, cs[j]? = some v → cur[off + j]? = some v) : Cells w (some ⟨g, off, none⟩) cs :=
  fun _ => ⟨g, off, rfl, fun j v hv => by simp [World.cell?, hg, hc j v hv]⟩
theorem Cells.of_own {base : Nat} {e : TypeId} {size n c : Nat} (h : w.ownsRow base e size (.slice A n c) n cs) : Cells w A cs := by
  intro h0
  rcases h.2 with ⟨hv, hn⟩ | ⟨g, cap, cur, hv, _, hg, hnc, _, hs, hx⟩
  · have := h.1
    subst hn
    simp at this
    simp [this] at h0
  · injection hv with hA
    refine ⟨g, 0, hA, fun j v hv => ?_⟩
    rw [← hx, List.getElem?_take] at hv
    split at hv
    · simpa [World.cell?, hg] using hv
    · cases hv
end

/-- Rows of structs: the cells of a list of things, each of which has 'size' cells. -/
theorem flat_length {α : Type} (f : α → List Value) (size : Nat) (hf : ∀ a, (f a).length = size) (l : List α) : (l.flatMap f).length = l.length * size := by
  induction l with
  | nil => simp
  | cons a l ih => simp [List.flatMap_cons, hf a, ih, Nat.add_mul]; omega

theorem flat_get {α : Type} (f : α → List Value) (size : Nat) (hf : ∀ a, (f a).length = size) (l : List α) (k j : Nat) (hj : j < size) :
    (l.flatMap f)[k * size + j]? = (l[k]?).bind fun a => (f a)[j]? := by
  induction l generalizing k with
  | nil => simp
  | cons a l ih =>
    rw [List.flatMap_cons]
    cases k with
    | zero => simp [List.getElem?_append_left (show j < (f a).length by rw [hf]; exact hj)]
    | succ k =>
      have e : (k + 1) * size + j = (f a).length + (k * size + j) := by rw [hf, Nat.add_mul]; omega
      rw [e, List.getElem?_append_right (by omega), Nat.add_sub_cancel_left, ih]
      simp

theorem flat_take {α : Type} (f : α → List Value) (size : Nat) (hf : ∀ a, (f a).length = size) (l : List α) (k : Nat) : (l.take k).flatMap f = (l.flatMap f).take (k * size) := by
  induction l generalizing k with
  | nil => simp
  | cons a l ih =>
    cases k with
    | zero => simp
    | succ k =>
      rw [List.take_succ_cons, List.flatMap_cons, List.flatMap_cons, ih, List.take_append, hf]
      have e : (k + 1) * size - size = k * size := by rw [Nat.add_mul]; omega
      rw [e, List.take_of_length_le (l := f a) (by rw [hf, Nat.add_mul]; omega)]

theorem flat_drop {α : Type} (f : α → List Value) (size : Nat) (hf : ∀ a, (f a).length = size) (l : List α) (k : Nat) : (l.drop k).flatMap f = (l.flatMap f).drop (k * size) := by
  induction l generalizing k with
  | nil => simp
  | cons a l ih =>
    cases k with
    | zero => simp
    | succ k =>
      rw [List.drop_succ_cons, List.flatMap_cons, ih, List.drop_append, hf]
      have e : (k + 1) * size - size = k * size := by rw [Nat.add_mul]; omega
      have h0 : (f a).drop ((k + 1) * size) = [] := List.drop_eq_nil_of_le (by rw [hf, Nat.add_mul]; omega)
      rw [e, h0]
      simp

theorem flat_one {α : Type} (f : α → List Value) (hf : ∀ a, ∀ u ∈ f a, u.oneCell' = true) (l : List α) : ∀ u ∈ l.flatMap f, u.oneCell' = true := by
  intro u hu
  obtain ⟨a, _, h⟩ := List.mem_flatMap.1 hu
  exact hf a u h

/- append onto a row of the call's own, the source nil, empty or not -/
section
variable {P : Program} (w : World)
theorem run_append_of_nil (base : Nat) (t ty e : TypeId) (i : TypeInfo) (size : Nat) (ht : P.underlying t = some (.slice e)) (hi : P.info? e = some i)
    (v : Value) (n : Nat) (xs : List Value) (hown : w.ownsRow base e size v n xs) (A : Option Addr) (c : Nat) : (Builtin.append_ #[t, t] ty #[v, .slice A 0 c]).run P w = .ok v w := by
  cases A with
  | none =>
    rcases hown.2 with ⟨rfl, rfl⟩ | ⟨g, cap, cur, rfl, _, _, hnc, _⟩
    · simp [Builtin.append_, run_underlying ht, sizeOf, typeInfo, hi, Builtin.lenOf, Builtin.firstCells]
    · simp [Builtin.append_, run_underlying ht, sizeOf, typeInfo, hi, Builtin.lenOf, Builtin.firstCells, hnc, storeCells]
  | some a =>
    have hl := run_loadCells_list (P := P) w a [] (by simp)
    rcases hown.2 with ⟨rfl, rfl⟩ | ⟨g, cap, cur, rfl, _, _, hnc, _⟩
    · simp [Builtin.append_, run_underlying ht, sizeOf, typeInfo, hi, Builtin.lenOf, Builtin.firstCells] at hl ⊢
      simp [hl]
    · simp [Builtin.append_, run_underlying ht, sizeOf, typeInfo, hi, Builtin.lenOf, Builtin.firstCells, hnc, storeCells] at hl ⊢
      simp [hl, storeCells]

theorem run_append_any (base : Nat) (t ty e : TypeId) (i : TypeInfo) (z : Value) (size bytes : Nat) (ht : P.underlying t = some (.slice e)) (hi : P.info? e = some i) (hz : i.zero = some z)
    (hsize : i.size = size) (hby : i.bytes = bytes) (hzs : z.cells.size = size) (hsz : 0 < size)
    (v : Value) (n : Nat) (xs : List Value) (hown : w.ownsRow base e size v n xs)
    (A : Option Addr) (m c : Nat) (news : List Value) (hl : news.length = m * size) (hr : Cells w A news) (h1 : ∀ u ∈ news, u.oneCell' = true)
    (h63 : n + m ≤ maxLen) (hbytes : (n + m) * bytes ≤ 140737488355328) (hbase : base ≤ w.heap.size) :
    ∃ v' w', (Builtin.append_ #[t, t] ty #[v, .slice A m c]).run P w = .ok v' w' ∧ w'.ownsRow base e size v' (n + m) (xs ++ news) ∧ w.grownBy w' v.ownBlock ∧
      (v'.ownBlock = v.ownBlock ∨ v'.ownBlock = some w.heap.size) := by
  rcases Nat.eq_zero_or_pos m with rfl | h0
  · have hn : news = [] := List.eq_nil_of_length_eq_zero (by simpa using hl)
    subst hn
    exact ⟨v, w, run_append_of_nil w base t ty e i size ht hi v n xs hown A c, by simpa using hown, World.grownBy.refl w _, .inl rfl⟩
  · obtain ⟨b, off, rfl, hc⟩ := hr (by rw [hl]; exact Nat.mul_pos h0 hsz)
    obtain ⟨v', w', hrun, h2, h3, _, h5⟩ := run_append_own_at (P := P) w base t ty e i z size bytes ht hi hz hsize hby hzs hsz v n xs hown ⟨b, off, none⟩ m c news hl
      (fun j u hu => by rw [add_mk]; exact hc j u hu) h1 h63 hbytes hbase
    exact ⟨v', w', hrun, h2, h3, h5⟩

theorem wp_append_any {o : Oper} {a : Act} {K : Act → World → Prop} {Q : Exit → Act → World → Prop} (s x : Operand) (t : TypeId)
    (ho : o.op = .call { callee := .builtin .append, args := #[s, x], argTypes := #[t, t] })
    (base : Nat) (e : TypeId) (i : TypeInfo) (z : Value) (size bytes : Nat) (ht : P.underlying t = some (.slice e)) (hi : P.info? e = some i) (hz : i.zero = some z)
    (hsize : i.size = size) (hby : i.bytes = bytes) (hzs : z.cells.size = size) (hsz : 0 < size)
    (v : Value) (n : Nat) (xs : List Value) (hs : a.eval s = v) (hown : w.ownsRow base e size v n xs)
    (A : Option Addr) (m c : Nat) (news : List Value) (hx : a.eval x = .slice A m c) (hl : news.length = m * size) (hr : Cells w A news) (h1 : ∀ u ∈ news, u.oneCell' = true)
    (h63 : n + m ≤ maxLen) (hbytes : (n + m) * bytes ≤ 140737488355328) (hbase : base ≤ w.heap.size)
    (h : ∀ v' w', w'.ownsRow base e size v' (n + m) (xs ++ news) → w.grownBy w' v.ownBlock → (v'.ownBlock = v.ownBlock ∨ v'.ownBlock = some w.heap.size) → K (a.put o.dst v') w') : o.wp P a w K Q := by
  obtain ⟨v', w', hrun, h2, h3, h4⟩ := run_append_any (P := P) w base t o.type e i z size bytes ht hi hz hsize hby hzs hsz v n xs hown A m c news hl hr h1 h63 hbytes hbase
  unfold Oper.wp execOp
  simp only [ho, resolve, invoke, builtin, Sem.run_bind, Sem.run_pure, Result.andThen_ok, List.map_toArray, List.map_cons, List.map_nil, hs, hx, hrun]
  exact h v' w' h2 h3 h4

theorem wpList_append_any {ops : Array Oper} {rest : List Oper} {o : Oper} {a : Act} {Q : Exit → Act → World → Prop} (hgd : o.guard = none) (s x : Operand) (t : TypeId)
    (ho : o.op = .call { callee := .builtin .append, args := #[s, x], argTypes := #[t, t] })
    (base : Nat) (e : TypeId) (i : TypeInfo) (z : Value) (size bytes : Nat) (ht : P.underlying t = some (.slice e)) (hi : P.info? e = some i) (hz : i.zero = some z)
    (hsize : i.size = size) (hby : i.bytes = bytes) (hzs : z.cells.size = size) (hsz : 0 < size)
    (v : Value) (n : Nat) (xs : List Value) (hs : a.eval s = v) (hown : w.ownsRow base e size v n xs)
    (A : Option Addr) (m c : Nat) (news : List Value) (hx : a.eval x = .slice A m c) (hl : news.length = m * size) (hr : Cells w A news) (h1 : ∀ u ∈ news, u.oneCell' = true)
    (h63 : n + m ≤ maxLen) (hbytes : (n + m) * bytes ≤ 140737488355328) (hbase : base ≤ w.heap.size)
    (h : ∀ v' w', w'.ownsRow base e size v' (n + m) (xs ++ news) → w.grownBy w' v.ownBlock → (v'.ownBlock = v.ownBlock ∨ v'.ownBlock = some w.heap.size) → wpList P ops Q rest (a.put o.dst v') w') : wpList P ops Q (o :: rest) a w :=
  wpList_plain hgd fun _ hK => wp_append_any w s x t ho base e i z size bytes ht hi hz hsize hby hzs hsz v n xs hs hown A m c news hx hl hr h1 h63 hbytes hbase fun v' w' h2 h3 h4 => hK _ _ (h v' w' h2 h3 h4)

theorem step_append_any {ops : Array Oper} {o : Oper} {a : Act} {K : Act → World → Prop} {Q : Exit → Act → World → Prop} {E : Prop} (hgd : o.guard = none) (s x : Operand) (t : TypeId)
    (ho : o.op = .call { callee := .builtin .append, args := #[s, x], argTypes := #[t, t] })
    (base : Nat) (e : TypeId) (i : TypeInfo) (z : Value) (size bytes : Nat) (ht : P.underlying t = some (.slice e)) (hi : P.info? e = some i) (hz : i.zero = some z)
    (hsize : i.size = size) (hby : i.bytes = bytes) (hzs : z.cells.size = size) (hsz : 0 < size)
    (v : Value) (n : Nat) (xs : List Value) (hs : a.eval s = v) (hown : w.ownsRow base e size v n xs)
    (A : Option Addr) (m c : Nat) (news : List Value) (hx : a.eval x = .slice A m c) (hl : news.length = m * size) (hr : Cells w A news) (h1 : ∀ u ∈ news, u.oneCell' = true)
    (h63 : n + m ≤ maxLen) (hbytes : (n + m) * bytes ≤ 140737488355328) (hbase : base ≤ w.heap.size)
    (h : ∀ v' w', w'.ownsRow base e size v' (n + m) (xs ++ news) → w.grownBy w' v.ownBlock → (v'.ownBlock = v.ownBlock ∨ v'.ownBlock = some w.heap.size) → K (a.put o.dst v') w') :
    if Region.wanted o (yielded ops a.tmps) = true then Oper.wp P o a w K Q else E := by
  have hw : Region.wanted o (yielded ops a.tmps) = true := by simp [Region.wanted, hgd]
  rw [if_pos hw]
  exact wp_append_any w s x t ho base e i z size bytes ht hi hz hsize hby hzs hsz v n xs hs hown A m c news hx hl hr h1 h63 hbytes hbase h

theorem own_empty {w : World} {g base : Nat} {e : TypeId} {size : Nat} (hb : base ≤ g) (h : w.heap[g]? = some (.cells #[] e (0, 0))) : w.ownsRow base e size (.slice (some ⟨g, 0, none⟩) 0 0) 0 [] :=
  ⟨by simp, .inr ⟨g, 0, #[], rfl, hb, h, Nat.le_refl _, by simp [maxLen], by simp, by simp⟩⟩

/-- 'copy(dst, src)' of elements of any width into a row that is known whole -/
theorem run_copy_rowN (dT sT ty elem : TypeId) (i : TypeInfo) (size : Nat) (g o dLen dCap : Nat) (A : Option Addr) (sLen sCap : Nat) (cur : Array Value) (t : TypeId) (cs : List Value)
    (hu : P.underlying dT = some (.slice elem)) (hi : P.info? elem = some i) (hsize : i.size = size)
    (hg : w.heap[g]? = some (.cells cur t (0, 0))) (hn : cs.length = Nat.min sLen dLen * size)
    (hsrc : Cells w A cs) (hfit : o + cs.length ≤ cur.size) (h1 : ∀ v ∈ cs, v.oneCell' = true) :
    (Builtin.copy_ #[dT, sT] ty #[.slice (some ⟨g, o, none⟩) dLen dCap, .slice A sLen sCap]).run P w =
      .ok (goInt (Nat.min sLen dLen)) (w.setRow g (cur.toList.take o ++ cs ++ cur.toList.drop (o + cs.length)).toArray) := by
  have hst := run_storeCells_at P g o t cs 0 cur w hg (by simpa using hfit) h1
  by_cases h0 : 0 < cs.length
  · obtain ⟨b, off, rfl, hc⟩ := hsrc h0
    have hl := run_loadCells_list (P := P) w ⟨b, off, none⟩ cs (fun j v hv => by rw [add_mk]; exact hc j v hv)
    simp [Builtin.copy_, run_underlying hu, Builtin.lenOf, Builtin.firstCells, sizeOf, typeInfo, hi, hsize, ← hn, hl, hst]
  · have hn0 : cs = [] := List.eq_nil_of_length_eq_zero (by omega)
    subst hn0
    have hl0 : ∀ a : Addr, (loadCells a 0).run P w = .ok #[] w := fun a => by simpa using run_loadCells_list (P := P) w a [] (by simp)
    simp only [List.append_nil, List.length_nil, Nat.add_zero, List.take_append_drop] at hst ⊢
    cases A with
    | none => simp [Builtin.copy_, run_underlying hu, Builtin.lenOf, Builtin.firstCells, sizeOf, typeInfo, hi, hst]
    | some a =>
      have hn' : Nat.min sLen dLen * i.size = 0 := by rw [hsize, ← hn]; rfl
      simp [Builtin.copy_, run_underlying hu, Builtin.lenOf, Builtin.firstCells, sizeOf, typeInfo, hi, hn', hl0, hst]
end

theorem wpList_copy_any {P : Program} {w : World} {ops : Array Oper} {rest : List Oper} {o : Oper} {a : Act} {Q : Exit → Act → World → Prop} (hgd : o.guard = none) (d s : Operand) (dT sT : TypeId)
    (ho : o.op = .call { callee := .builtin .copy, args := #[d, s], argTypes := #[dT, sT] }) (elem : TypeId) (i : TypeInfo) (size : Nat) (hu : P.underlying dT = some (.slice elem)) (hi : P.info? elem = some i) (hsize : i.size = size)
    (g off dLen dCap : Nat) (A : Option Addr) (sLen sCap : Nat) (hd : a.eval d = .slice (some ⟨g, off, none⟩) dLen dCap) (hs : a.eval s = .slice A sLen sCap)
    (cur : List Value) (t : TypeId) (hg : w.heap[g]? = some (.cells cur.toArray t (0, 0))) (cs : List Value) (n : Nat) (hmin : Nat.min sLen dLen = n) (hn : cs.length = n * size)
    (hsrc : Cells w A cs) (hfit : off + cs.length ≤ cur.length) (h1 : ∀ v ∈ cs, v.oneCell' = true)
    (h : ∀ w', w'.heap[g]? = some (.cells (cur.take off ++ (cs ++ cur.drop (off + cs.length))).toArray t (0, 0)) → w.grownBy w' (some g) → wpList P ops Q rest (a.put o.dst (goInt n)) w') :
    wpList P ops Q (o :: rest) a w := by
  refine wpList_plain hgd fun K hK => ?_
  have hrun := run_copy_rowN (P := P) w dT sT o.type elem i size g off dLen dCap A sLen sCap cur.toArray t cs hu hi hsize hg (by rw [hmin, hn]) hsrc (by simpa using hfit) h1
  unfold Oper.wp
  simp [execOp, ho, resolve, invoke, builtin, hd, hs, hrun, Result.andThen]
  rw [hmin]
  refine hK _ _ (h _ ?_ ?_)
  · simpa using setRow_heap w g _ _ t _ hg
  · exact ⟨rfl, rfl, rfl, by simp [World.setRow], fun k _ hne => setRow_other w g k _ (fun e => hne (by rw [e]))⟩

theorem below_setRow {B g : Nat} {w0 w : World} (hb : Below B w0 w) (hBg : B ≤ g) (cs : Array Value) : Below B w0 (w.setRow g cs) :=
  hb.trans ⟨rfl, rfl, rfl, by simp [World.setRow], fun k hk => setRow_other w g k cs (by omega)⟩

theorem below_only {w w' : World} (h : Below w.heap.size w w') {w2 : World} (k : Below w'.heap.size w' w2) : Below w.heap.size w w2 := h.trans (k.mono h.size)

/-- 'make([]T, n)' with a variable n: the new block written out -/
theorem wpList_make_row {P : Program} (w : World) {ops : Array Oper} {rest : List Oper} {o : Oper} {a : Act} {Q : Exit → Act → World → Prop}
    (hg : o.guard = none) (l c : Operand) (t : TypeId) (hop : o.op = Op.makeSlice t l c)
    (e : TypeId) (i : TypeInfo) (z : Value) (size bytes : Nat) (h1 : P.underlying t = some (.slice e)) (h2 : P.info? e = some i) (h3 : i.zero = some z) (h4 : i.size = size) (h5 : i.bytes = bytes)
    (L C : Int) (n : Nat) (hl : a.eval l = .int .i64 L) (hc : a.eval c = .int .i64 C) (hL : L = (n : Int)) (hC : C = (n : Int)) (b2 : bytes * n ≤ 281474976710656) (b3 : n ≤ 9223372036854775807)
    (hK : (madeCells z.cells (n * size)).size = n * size → wpList P ops Q rest (a.put o.dst (.slice (some ⟨w.heap.size, 0, none⟩) n n)) (w.alloc (.cells (madeCells z.cells (n * size)) e))) :
    wpList P ops Q (o :: rest) a w := by
  refine wpList_plain hg fun K hK' => ?_
  subst h4 h5 hL hC
  have hb : (i.bytes : Int) * (n : Int) ≤ 281474976710656 := by
    have h : ((i.bytes * n : Nat) : Int) ≤ 281474976710656 := by omega
    rwa [Int.natCast_mul] at h
  have hr := run_make (P := P) w t e i z h1 h2 h3 .i64 .i64 n n (by omega) (by omega) hb (by omega)
  simp only [Int.toNat_natCast] at hr
  unfold Oper.wp
  simp [execOp, hop, hl, hc, hr, Result.andThen]
  exact hK' _ _ (hK (by simp [madeCells]))

theorem row_set {w : World} {g i : Nat} {cur : Array Value} {t : TypeId} {fr : Nat × Nat} (h : w.heap[g]? = some (.cells cur t fr)) (v : Value) : (w.setCell ⟨g, i, none⟩ v).heap[g]? = some (.cells (cur.setIfInBounds i v) t fr) := by
  simp [World.setCell, Array.getElem?_modify, h]
theorem row_cell {w : World} {g : Nat} {cur : Array Value} {t : TypeId} {fr : Nat × Nat} (h : w.heap[g]? = some (.cells cur t fr)) (i : Nat) : w.cell? ⟨g, i, none⟩ = cur[i]? := by
  simp [World.cell?, h]
theorem row_frozen {w : World} {g : Nat} {cur : Array Value} {t : TypeId} (h : w.heap[g]? = some (.cells cur t (0, 0))) (i : Nat) : w.frozen? ⟨g, i, none⟩ = false := by
  simp [World.frozen?, h]
theorem row_new (w : World) (cs : Array Value) (t : TypeId) : (w.alloc (.cells cs t)).heap[w.heap.size]? = some (.cells cs t (0, 0)) := heap_alloc_new w _

theorem store_two (L D : List Value) (n : Nat) (u v : Value) (hn : L.length = n) (h : (L ++ D).length = n + 2) :
    ((L ++ D).toArray.setIfInBounds n u).setIfInBounds (n + 1) v = (L ++ [u, v]).toArray := by
  subst hn
  have hD : D.length = 2 := by simp at h; omega
  match D, hD with
  | [a, b], _ => simp

theorem heap_at {w : World} {o : Obj} {g : Nat} (h : g = w.heap.size) : (w.alloc o).heap[g]? = some o := by
  subst h
  exact heap_alloc_new w o
theorem heap_old {w : World} {o o' : Obj} {g : Nat} (h : g < w.heap.size) (h' : w.heap[g]? = some o') : (w.alloc o).heap[g]? = some o' := (Below.heap_alloc w o g h).trans h'
theorem heap_drew {w : World} {o' : Obj} {g : Nat} (h' : w.heap[g]? = some o') : w.drew.heap[g]? = some o' := h'
theorem heap_drewN {w : World} {o' : Obj} {g n : Nat} (h' : w.heap[g]? = some o') : (w.drewN n).heap[g]? = some o' := h'
theorem cells_two {w : World} {g : Nat} {u v : Value} (h0 : w.cell? ⟨g, 0, none⟩ = some u) (h1 : w.cell? ⟨g, 1, none⟩ = some v) : Cells w (some ⟨g, 0, none⟩) [u, v] := by
  intro _
  refine ⟨g, 0, rfl, fun j x hx => ?_⟩
  match j, hx with
  | 0, hx => simp at hx; subst hx; exact h0
  | 1, hx => simp at hx; subst hx; exact h1
theorem cells_one {w : World} {g : Nat} {u : Value} (h0 : w.cell? ⟨g, 0, none⟩ = some u) : Cells w (some ⟨g, 0, none⟩) [u] := by
  intro _
  refine ⟨g, 0, rfl, fun j x hx => ?_⟩
  match j, hx with
  | 0, hx => simp at hx; subst hx; exact h0

/-- what a function leaves that hands back a row of its own: n elements whose cells are cs, in new memory -/
def NewRow (w : World) (n : Nat) (cs : List Value) (v : Value) (w' : World) : Prop :=
  ∃ A c, v = .slice A n c ∧ n ≤ c ∧ Cells w' A cs ∧ (∀ a, A = some a → w.heap.size ≤ a.block) ∧ Below w.heap.size w w'
theorem newRow_of_own {w w' : World} {base : Nat} {e : TypeId} {size n n' : Nat} {v : Value} {cs cs' : List Value} (h : w'.ownsRow base e size v n cs) (hn : n = n') (hc : cs = cs') (hB : w.heap.size ≤ base) (hb : Below w.heap.size w w') : NewRow w n' cs' v w' := by
  subst hn; subst hc
  rcases h.2 with ⟨rfl, hn⟩ | ⟨g, cap, cur, rfl, hg, _, hnc, _⟩
  · subst hn
    exact ⟨none, 0, rfl, Nat.le_refl _, Cells.of_own h, by simp, hb⟩
  · exact ⟨some ⟨g, 0, none⟩, cap, rfl, hnc, Cells.of_own h, fun a ha => by injection ha with ha; subst ha; exact Nat.le_trans hB hg, hb⟩
theorem newRow_nil' {w w' : World} (hb : Below w.heap.size w w') : NewRow w 0 [] (.slice none 0 0) w' := ⟨none, 0, rfl, Nat.le_refl _, Cells.nil, by simp, hb⟩
theorem newRow_nil (w : World) : NewRow w 0 [] (.slice none 0 0) w := ⟨none, 0, rfl, Nat.le_refl _, Cells.nil, by simp, Below.refl _ _⟩
/-- the cells of a new row behind a store into an elder block -/
theorem Cells.setCell {w : World} {A : Option Addr} {cs : List Value} (h : Cells w A cs) {p : Addr} (hne : ∀ a, A = some a → a.block ≠ p.block) (u : Value) : Cells (w.setCell p u) A cs := by
  intro h0
  obtain ⟨b, off, rfl, hc⟩ := h h0
  exact ⟨b, off, rfl, fun j v hv => (World.cell?_of_block (Below.heap_setCell w p u b (hne _ rfl))).trans (hc j v hv)⟩

/-- of what lay in w nothing has turned: as one word, and as a rule for the cells -/
abbrev Old (w w' : World) : Prop := Below w.heap.size w w' ∧ ∀ b o, b < w.heap.size → w'.cell? ⟨b, o, none⟩ = w.cell? ⟨b, o, none⟩
theorem old_of {w w' : World} (h : Below w.heap.size w w') : Old w w' := ⟨h, fun b o hb => h.cell (p := ⟨b, o, none⟩) hb⟩

/-- a block that is known whole, kept over calls and new blocks -/
theorem row_below {w w' : World} {g : Nat} {o : Obj} (h : w.heap[g]? = some o) (hb : Below w.heap.size w w') : w'.heap[g]? = some o := (hb.block g (lt_of_heap h)).trans h
theorem row_alloc {w : World} {g : Nat} {o o' : Obj} (h : w.heap[g]? = some o) : (w.alloc o').heap[g]? = some o := heap_old (lt_of_heap h) h
theorem box1 {w : World} {g : Nat} {u : Value} {t : TypeId} (h : w.heap[g]? = some (.cells #[u] t (0, 0))) : w.cell? ⟨g, 0, none⟩ = some u ∧ w.frozen? ⟨g, 0, none⟩ = false := ⟨by rw [row_cell h]; rfl, row_frozen h 0⟩
theorem box2 {w : World} {g : Nat} {u v : Value} {t : TypeId} (h : w.heap[g]? = some (.cells #[u, v] t (0, 0))) :
    w.cell? ⟨g, 0, none⟩ = some u ∧ w.cell? ⟨g, 1, none⟩ = some v ∧ w.frozen? ⟨g, 0, none⟩ = false ∧ w.frozen? ⟨g, 1, none⟩ = false := ⟨by rw [row_cell h]; rfl, by rw [row_cell h]; rfl, row_frozen h 0, row_frozen h 1⟩
theorem box4 {w : World} {g : Nat} {u v x y : Value} {t : TypeId} (h : w.heap[g]? = some (.cells #[u, v, x, y] t (0, 0))) :
    w.cell? ⟨g, 0, none⟩ = some u ∧ w.cell? ⟨g, 1, none⟩ = some v ∧ w.cell? ⟨g, 2, none⟩ = some x ∧ w.cell? ⟨g, 3, none⟩ = some y ∧
      w.frozen? ⟨g, 0, none⟩ = false ∧ w.frozen? ⟨g, 1, none⟩ = false ∧ w.frozen? ⟨g, 2, none⟩ = false ∧ w.frozen? ⟨g, 3, none⟩ = false :=
  ⟨by rw [row_cell h]; rfl, by rw [row_cell h]; rfl, by rw [row_cell h]; rfl, by rw [row_cell h]; rfl, row_frozen h 0, row_frozen h 1, row_frozen h 2, row_frozen h 3⟩

theorem ret_int {k : IntKind} {a b : Int} (h : a = b) : Ending.returned (.int k a) = .returned (.int k b) := by rw [h]
theorem ret_bool {a b : Bool} (h : a = b) : Ending.returned (.bool a) = .returned (.bool b) := by rw [h]

end Go.Proofs.Ytconieenkeajiaa
