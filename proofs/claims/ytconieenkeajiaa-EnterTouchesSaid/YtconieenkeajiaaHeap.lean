/- Words of our own for memory that is written: all but some blocks as it was. No program in sight. -/
import Derived.Test.YtconieenkeajiaaMore
import Derived.Deep.RegionLawGrows
namespace Go.Proofs.Ytconieenkeajiaa
open Go.RowKit

/-- all blocks of w but those of S are in w' as they were -/
structure Keep (S : List Nat) (w w' : World) : Prop where
  os : w'.os = w.os
  tape : w'.tape = w.tape
  output : w'.output = w.output
  size : w.heap.size ≤ w'.heap.size
  block : ∀ k, k < w.heap.size → k ∉ S → w'.heap[k]? = w.heap[k]?

section
variable {S T : List Nat} {w w' w'' : World}
theorem Keep.refl (S : List Nat) (w : World) : Keep S w w := ⟨rfl, rfl, rfl, Nat.le_refl _, fun _ _ _ => rfl⟩
theorem Keep.trans (h : Keep S w w') (k : Keep S w' w'') : Keep S w w'' :=
  ⟨k.os.trans h.os, k.tape.trans h.tape, k.output.trans h.output, Nat.le_trans h.size k.size, fun i hi hs => (k.block i (Nat.lt_of_lt_of_le hi h.size) hs).trans (h.block i hi hs)⟩
theorem Keep.mono (h : Keep S w w') (hs : ∀ k, k < w.heap.size → k ∈ S → k ∈ T) : Keep T w w' :=
  ⟨h.os, h.tape, h.output, h.size, fun i hi hn => h.block i hi (fun hm => hn (hs i hi hm))⟩
/-- what the second one turns is of what the first one laid, or of T -/
theorem Keep.then (h : Keep T w w') (k : Keep S w' w'') (hs : ∀ i, i < w.heap.size → i ∈ S → i ∈ T) : Keep T w w'' :=
  ⟨k.os.trans h.os, k.tape.trans h.tape, k.output.trans h.output, Nat.le_trans h.size k.size, fun i hi hn => (k.block i (Nat.lt_of_lt_of_le hi h.size) (fun hm => hn (hs i hi hm))).trans (h.block i hi hn)⟩
theorem Keep.drew (h : Keep S w w') : Keep S w w'.drew := ⟨h.os, h.tape, h.output, h.size, h.block⟩
theorem Keep.drewN (h : Keep S w w') (n : Nat) : Keep S w (w'.drewN n) := ⟨h.os, h.tape, h.output, h.size, h.block⟩
theorem Keep.alloc (h : Keep S w w') (o : Obj) : Keep S w (w'.alloc o) :=
  h.trans ⟨rfl, rfl, rfl, by simp, fun k hk _ => Below.heap_alloc _ _ _ hk⟩
theorem Keep.setCell (h : Keep S w w') {p : Addr} (hp : p.block ∈ S ∨ w.heap.size ≤ p.block) (u : Value) : Keep S w (w'.setCell p u) :=
  ⟨h.os, h.tape, h.output, Nat.le_trans h.size (by simp [World.setCell]), fun i hi hs => (Below.heap_setCell _ _ _ _ (fun e => by
    subst e
    rcases hp with hp | hp
    · exact hs hp
    · omega)).trans (h.block i hi hs)⟩
theorem Keep.setRow (h : Keep S w w') {g : Nat} (hp : g ∈ S ∨ w.heap.size ≤ g) (cs : Array Value) : Keep S w (w'.setRow g cs) :=
  ⟨h.os, h.tape, h.output, Nat.le_trans h.size (by simp [World.setRow]), fun i hi hs => (setRow_other _ _ _ _ (fun e => by
    subst e
    rcases hp with hp | hp
    · exact hs hp
    · omega)).trans (h.block i hi hs)⟩
theorem Below.keep (h : Below w.heap.size w w') (S : List Nat) : Keep S w w' := ⟨h.os, h.tape, h.output, h.size, fun k hk _ => h.block k hk⟩
theorem keep_below (h : Below w.heap.size w w') (S : List Nat) : Keep S w w' := ⟨h.os, h.tape, h.output, h.size, fun k hk _ => h.block k hk⟩
theorem keep_grown {row : Option Nat} (h : w.grownBy w' row) (hr : ∀ k, row = some k → k ∈ S ∨ w.heap.size ≤ k) : Keep S w w' :=
  ⟨h.os, h.tape, h.output, h.size, fun i hi hs => h.block i hi (fun e => by
    rcases hr i e.symm with hm | hm
    · exact hs hm
    · omega)⟩
theorem Keep.call (h : Keep S w w') (hb : Below w'.heap.size w' w'') : Keep S w w'' := h.trans (keep_below hb S)
theorem Keep.grown {row : Option Nat} (h : Keep S w w') (hg : w'.grownBy w'' row) (hr : ∀ k, row = some k → k ∈ S ∨ w.heap.size ≤ k) : Keep S w w'' :=
  ⟨hg.os.trans h.os, hg.tape.trans h.tape, hg.output.trans h.output, Nat.le_trans h.size hg.size, fun i hi hs => (hg.block i (Nat.lt_of_lt_of_le hi h.size) (fun e => by
    rcases hr i e.symm with hm | hm
    · exact hs hm
    · omega)).trans (h.block i hi hs)⟩
/-- all that is turned is of the call's own -/
theorem Keep.under {B : Nat} {a : World} (h : Below B a w) (k : Keep S w w') (hB : B ≤ w.heap.size) (hs : ∀ i ∈ S, B ≤ i) : Below B a w' :=
  h.trans ⟨k.os, k.tape, k.output, k.size, fun i hi => k.block i (by omega) (fun hm => by have := hs i hm; omega)⟩
theorem Keep.row {g : Nat} {o : Obj} (k : Keep S w w') (h : w.heap[g]? = some o) (hn : g ∉ S) : w'.heap[g]? = some o := (k.block g (lt_of_heap h) hn).trans h
theorem Keep.cell {p : Addr} {v : Value} (k : Keep S w w') (h : w.cell? p = some v) (hn : p.block ∉ S) : w'.cell? p = some v :=
  (World.cell?_of_block (w := w) (k.block p.block (World.block_lt_of_cell? w p h) hn)).trans h
theorem Cells.kept {A : Option Addr} {cs : List Value} (h : Cells w A cs) (k : Keep S w w') (hn : ∀ a, A = some a → a.block ∉ S) : Cells w' A cs := by
  intro h0
  obtain ⟨b, off, rfl, hc⟩ := h h0
  have hb := hn ⟨b, off, none⟩ rfl
  exact ⟨b, off, rfl, fun j v hv => k.cell (p := ⟨b, off + j, none⟩) (hc j v hv) hb⟩
theorem own_kept {B e size n : Nat} {v : Value} {xs : List Value} (h : w.ownsRow B e size v n xs) (k : Keep S w w') (hn : ∀ i, v.ownBlock = some i → i ∉ S) : w'.ownsRow B e size v n xs := by
  refine ⟨h.1, ?_⟩
  rcases h.2 with h | ⟨g, cap, cur, rfl, h2, h3, h4⟩
  · exact .inl h
  · exact .inr ⟨g, cap, cur, rfl, h2, k.row h3 (hn g (by simp [Value.ownBlock])), h4⟩
end

theorem keep_one {w w' : World} {k : Nat} (h : Keep [k] w w') (hk : w.heap.size ≤ k) : Below w.heap.size w w' :=
  ⟨h.os, h.tape, h.output, h.size, fun i hi => h.block i hi (by simp; omega)⟩
theorem keep_none {w w' : World} (h : Keep [] w w') : Below w.heap.size w w' := ⟨h.os, h.tape, h.output, h.size, fun i hi => h.block i hi (by simp)⟩

theorem box3 {w : World} {g : Nat} {u v x : Value} {t : TypeId} (h : w.heap[g]? = some (.cells #[u, v, x] t (0, 0))) :
    w.cell? ⟨g, 0, none⟩ = some u ∧ w.cell? ⟨g, 1, none⟩ = some v ∧ w.cell? ⟨g, 2, none⟩ = some x ∧
      w.frozen? ⟨g, 0, none⟩ = false ∧ w.frozen? ⟨g, 1, none⟩ = false ∧ w.frozen? ⟨g, 2, none⟩ = false :=
  ⟨by rw [row_cell h]; rfl, by rw [row_cell h]; rfl, by rw [row_cell h]; rfl, row_frozen h 0, row_frozen h 1, row_frozen h 2⟩

theorem cells_add {w : World} {A : Option Addr} {cs : List Value} (h : Cells w A cs) : ∀ b, A = some b → ∀ j u, cs[j]? = some u → w.cell? (b.add j) = some u := by
  intro b hb j u hu
  obtain ⟨g, off, rfl, hc⟩ := h (Nat.lt_of_le_of_lt (Nat.zero_le j) (List.getElem?_eq_some_iff.1 hu).1)
  injection hb with hb
  subst hb
  rw [add_mk]
  exact hc j u hu
theorem row_add {w : World} {g : Nat} {cs : List Value} {t : TypeId} {fr : Nat × Nat} (h : w.heap[g]? = some (.cells cs.toArray t fr)) : ∀ j x, cs[j]? = some x → w.cell? ((⟨g, 0, none⟩ : Addr).add j) = some x := by
  intro j x hx
  rw [add_mk, Nat.zero_add]
  simpa [World.cell?, h] using hx
theorem own_mono {w : World} {B B' e size n : Nat} {v : Value} {xs : List Value} (h : w.ownsRow B' e size v n xs) (hB : B ≤ B') : w.ownsRow B e size v n xs := by
  refine ⟨h.1, ?_⟩
  rcases h.2 with h | ⟨g, cap, cur, h1, h2, h3, h4⟩
  · exact .inl h
  · exact .inr ⟨g, cap, cur, h1, Nat.le_trans hB h2, h3, h4⟩

theorem row_grown {w w' : World} {g : Nat} {o : Obj} {row : Option Nat} (h : w.heap[g]? = some o) (hg : w.grownBy w' row) (hn : row ≠ some g) : w'.heap[g]? = some o :=
  (hg.block g (lt_of_heap h) (fun e => hn e.symm)).trans h

theorem own_of_row {w : World} {g base n c size : Nat} {e : TypeId} {cur : Array Value} (hg : w.heap[g]? = some (.cells cur e (0, 0))) (hb : base ≤ g) (hn : n ≤ c) (hc : cur.size = c * size) (hm : c ≤ maxLen) :
    w.ownsRow base e size (.slice (some ⟨g, 0, none⟩) n c) n (cur.toList.take (n * size)) :=
  ⟨by simp only [List.length_take, Array.length_toList, hc]; exact Nat.min_eq_left (Nat.mul_le_mul_right _ hn), .inr ⟨g, c, cur, rfl, hb, hg, hn, hm, hc, rfl⟩⟩
theorem own_all {w : World} {g base n size : Nat} {e : TypeId} {cs : List Value} (hg : w.heap[g]? = some (.cells cs.toArray e (0, 0))) (hb : base ≤ g) (hc : cs.length = n * size) (hm : n ≤ maxLen) :
    w.ownsRow base e size (.slice (some ⟨g, 0, none⟩) n n) n cs := by
  have := own_of_row (size := size) hg hb (Nat.le_refl n) (by simpa using hc) hm
  rwa [List.take_of_length_le (by simp [hc])] at this

theorem own_take {w : World} {g base n c size : Nat} {e : TypeId} {cs xs : List Value} (hg : w.heap[g]? = some (.cells cs.toArray e (0, 0))) (hb : base ≤ g) (hn : n ≤ c) (hc : cs.length = c * size) (hx : cs.take (n * size) = xs) (hm : c ≤ maxLen) :
    w.ownsRow base e size (.slice (some ⟨g, 0, none⟩) n c) n xs := by
  have := own_of_row (size := size) hg hb hn (by simpa using hc) hm
  rw [← hx]
  simpa using this

/- append where there is room, into a row that is known whole; the source nil, empty or not -/
section
variable {P : Program} (w : World)
theorem run_append_in (t ty e : TypeId) (i : TypeInfo) (size : Nat) (ht : P.underlying t = some (.slice e)) (hi : P.info? e = some i) (hsize : i.size = size)
    (g n cap : Nat) (cur : Array Value) (hg : w.heap[g]? = some (.cells cur e (0, 0))) (A : Option Addr) (m c : Nat) (news : List Value) (hl : news.length = m * size) (hsz : 0 < size) (hr : Cells w A news) (h1 : ∀ u ∈ news, u.oneCell' = true)
    (hroom : n + m ≤ cap) (hfit : n * size + news.length ≤ cur.size) :
    ∃ w', (Builtin.append_ #[t, t] ty #[.slice (some ⟨g, 0, none⟩) n cap, .slice A m c]).run P w = .ok (.slice (some ⟨g, 0, none⟩) (n + m) cap) w' ∧
      w'.heap[g]? = some (.cells (cur.toList.take (n * size) ++ (news ++ cur.toList.drop (n * size + news.length))).toArray e (0, 0)) ∧ w.grownBy w' (some g) := by
  subst hsize
  rcases Nat.eq_zero_or_pos m with rfl | h0
  · obtain rfl : news = [] := List.eq_nil_of_length_eq_zero (by simpa using hl)
    refine ⟨w, ?_, ?_, World.grownBy.refl w _⟩
    · cases A with
      | none => simp [Builtin.append_, run_underlying ht, sizeOf, typeInfo, hi, Builtin.lenOf, Builtin.firstCells, show n ≤ cap by omega, storeCells]
      | some a =>
        have hl := run_loadCells_list (P := P) w a [] (by simp)
        simp [Builtin.append_, run_underlying ht, sizeOf, typeInfo, hi, Builtin.lenOf, Builtin.firstCells, show n ≤ cap by omega, storeCells] at hl ⊢
        simp [hl, storeCells]
    · simpa using hg
  · obtain ⟨b, off, rfl, hc⟩ := hr (by rw [hl]; exact Nat.mul_pos h0 hsz)
    refine ⟨_, run_append_room (P := P) w t ty e i ht hi g n cap cur hg ⟨b, off, none⟩ m c news hl (fun j u hu => by rw [add_mk]; exact hc j u hu) h1 hroom hfit, ?_, ?_⟩
    · rw [List.append_assoc]
      exact setRow_heap w g cur _ e _ hg
    · exact ⟨rfl, rfl, rfl, by simp [World.setRow], fun k _ hne => setRow_other w g k _ (fun e => hne (by rw [e]))⟩

theorem step_append_in {ops : Array Oper} {o : Oper} {a : Act} {K : Act → World → Prop} {Q : Exit → Act → World → Prop} {E : Prop} (hgd : o.guard = none) (s x : Operand) (t : TypeId)
    (ho : o.op = .call { callee := .builtin .append, args := #[s, x], argTypes := #[t, t] }) (e : TypeId) (i : TypeInfo) (size : Nat) (ht : P.underlying t = some (.slice e)) (hi : P.info? e = some i) (hsize : i.size = size) (hsz : 0 < size)
    (g n cap : Nat) (cur : Array Value) (hs : a.eval s = .slice (some ⟨g, 0, none⟩) n cap) (hg : w.heap[g]? = some (.cells cur e (0, 0))) (A : Option Addr) (m c : Nat) (hx : a.eval x = .slice A m c) (news : List Value) (hl : news.length = m * size) (hr : Cells w A news) (h1 : ∀ u ∈ news, u.oneCell' = true)
    (hroom : n + m ≤ cap) (hfit : n * size + news.length ≤ cur.size)
    (h : ∀ w', w'.heap[g]? = some (.cells (cur.toList.take (n * size) ++ (news ++ cur.toList.drop (n * size + news.length))).toArray e (0, 0)) → w.grownBy w' (some g) → K (a.put o.dst (.slice (some ⟨g, 0, none⟩) (n + m) cap)) w') :
    if Region.wanted o (yielded ops a.tmps) = true then Oper.wp P o a w K Q else E := by
  have hw : Region.wanted o (yielded ops a.tmps) = true := by simp [Region.wanted, hgd]
  rw [if_pos hw]
  obtain ⟨w', hrun, h2, h3⟩ := run_append_in (P := P) w t o.type e i size ht hi hsize g n cap cur hg A m c news hl hsz hr h1 hroom hfit
  unfold Oper.wp execOp
  simp only [ho, resolve, invoke, builtin, Sem.run_bind, Sem.run_pure, Result.andThen_ok, List.map_toArray, List.map_cons, List.map_nil, hs, hx, hrun]
  exact h w' h2 h3

theorem run_clear_row (t e ty : TypeId) (z : Value) (ht : P.underlying t = some (.slice e)) (hv : (zeroValue e).run P w = .ok z w) (g o n c : Nat) (cur : Array Value) (hg : w.heap[g]? = some (.cells cur e (0, 0))) (hn : 0 < n)
    (hfit : o + n * z.cells.size ≤ cur.size) (h1 : ∀ u ∈ (Builtin.zeroCells z.cells n).toList, u.oneCell' = true) :
    (Builtin.clear_ #[t] ty #[.slice (some ⟨g, o, none⟩) n c]).run P w = .ok (.tuple #[]) (w.setRow g (cur.toList.take o ++ (Builtin.zeroCells z.cells n).toList ++ cur.toList.drop (o + n * z.cells.size)).toArray) := by
  have hst := run_storeCells_at P g o e (Builtin.zeroCells z.cells n).toList 0 cur w hg (by simpa [size_zeroCells] using hfit) h1
  simp only [Nat.add_zero] at hst
  obtain ⟨m, rfl⟩ : ∃ m, n = m + 1 := ⟨n - 1, by omega⟩
  simp [Builtin.clear_, run_underlying ht, hv, hst, size_zeroCells]

theorem wpList_clear_in {ops : Array Oper} {rest : List Oper} {o : Oper} {a : Act} {Q : Exit → Act → World → Prop} (hgd : o.guard = none) (x : Operand) (t : TypeId)
    (ho : o.op = .call { callee := .builtin .clear, args := #[x], argTypes := #[t] }) (e : TypeId) (z : Value) (ht : P.underlying t = some (.slice e)) (hv : (zeroValue e).run P w = .ok z w)
    (g off n c : Nat) (cur : List Value) (hx : a.eval x = .slice (some ⟨g, off, none⟩) n c) (hg : w.heap[g]? = some (.cells cur.toArray e (0, 0))) (hn : 0 < n) (hfit : off + n * z.cells.size ≤ cur.length) (h1 : ∀ u ∈ (Builtin.zeroCells z.cells n).toList, u.oneCell' = true)
    (h : ∀ w', w'.heap[g]? = some (.cells (cur.take off ++ ((Builtin.zeroCells z.cells n).toList ++ cur.drop (off + n * z.cells.size))).toArray e (0, 0)) → w.grownBy w' (some g) → wpList P ops Q rest (a.put o.dst (.tuple #[])) w') :
    wpList P ops Q (o :: rest) a w := by
  refine wpList_plain hgd fun K hK => ?_
  have hrun := run_clear_row (P := P) w t e o.type z ht hv g off n c cur.toArray hg hn (by simpa using hfit) h1
  unfold Oper.wp execOp
  simp only [ho, resolve, invoke, builtin, Sem.run_bind, Sem.run_pure, Result.andThen_ok, List.map_toArray, List.map_cons, List.map_nil, hx, hrun]
  refine hK _ _ (h _ ?_ ?_)
  · rw [← List.append_assoc]
    exact setRow_heap w g _ _ e _ hg
  · exact ⟨rfl, rfl, rfl, by simp [World.setRow], fun k _ hne => setRow_other w g k _ (fun e => hne (by rw [e]))⟩
end

end Go.Proofs.Ytconieenkeajiaa
