/- Words for the texts that walk a micro-step: a struct that ends in a call on its way; maps that are made on the spot. (Printed by gen_takeb.py.) Layer 15 in plain terms: what a step of an allocation makes of it, and of the words. Layer 15 in plain terms: allocations on their way, and the scopes' blocks. Two arenas beside each other: the program's, and the document's. No program's function in sight. -/
import Derived.Test.YtbijaloeilnjoaaGreatTakeA
import Derived.Test.YtbijaloeilnjoaaGreatFound
import Derived.Test.YtbijaloeilnjoaaGreatBRefC
import Derived.Test.YtbijaloeilnjoaaGreatAll
namespace Go.Proofs.YtbijaloeilnjoaaGreat
open Go.RowKit
set_option linter.unusedVariables false
set_option linter.unusedSimpArgs false

/-- a struct that ends in a call on its way -/
def preArr (pr cs : Array Value) : Array Value := pr ++ cs
theorem pre_get (pr cs : Array Value) (n j : Nat) (hn : n = pr.size + j) : (preArr pr cs)[n]? = cs[j]? := by
 subst hn
 unfold preArr
 rw [Array.getElem?_append_right (by omega)]
 simp
theorem pre_low (pr cs : Array Value) (n : Nat) (hn : n < pr.size) : (preArr pr cs)[n]? = pr[n]? := by
 unfold preArr
 rw [Array.getElem?_append_left hn]
theorem pre_size (pr cs : Array Value) : (preArr pr cs).size = pr.size + cs.size := by simp [preArr]
theorem pre_set (pr cs : Array Value) (n j : Nat) (v : Value) (hn : n = pr.size + j) : (preArr pr cs).setIfInBounds n v = preArr pr (cs.setIfInBounds j v) := by
 subst hn
 apply Array.ext_getElem?
 intro i
 rcases Nat.lt_or_ge i pr.size with h | h
 ·rw [Array.getElem?_setIfInBounds_ne (by omega), pre_low _ _ _ h, pre_low _ _ _ h]
 ·obtain ⟨k, rfl⟩ : ∃ k, i = pr.size + k := ⟨i - pr.size, by omega⟩
  rw [pre_get pr _ _ k rfl]
  by_cases e : j = k
  ·subst e
   by_cases hl : j < cs.size
   ·rw [Array.getElem?_setIfInBounds_self_of_lt (by rw [pre_size]; omega), Array.getElem?_setIfInBounds_self_of_lt hl]
   ·rw [Array.getElem?_eq_none (by simp [pre_size]; omega), Array.getElem?_eq_none (by simp; omega)]
  ·rw [Array.getElem?_setIfInBounds_ne (by omega), pre_get pr _ _ k rfl, Array.getElem?_setIfInBounds_ne e]
theorem pre_sub (pr cs cs' : Array Value) (n : Nat) (hn : n = pr.size) (h : cs'.size = cs.size) : subSet (preArr pr cs) n cs' = preArr pr cs' := by
 subst hn
 apply Array.ext_getElem?
 intro i
 have hs : pr.size + cs'.size ≤ (preArr pr cs).size := by rw [pre_size]; omega
 rcases Nat.lt_or_ge i pr.size with h2 | h2
 ·rw [subSet_out _ _ _ hs _ (.inl h2), pre_low _ _ _ h2, pre_low _ _ _ h2]
 ·obtain ⟨k, rfl⟩ : ∃ k, i = pr.size + k := ⟨i - pr.size, by omega⟩
  rcases Nat.lt_or_ge k cs'.size with h3 | h3
  ·rw [pre_get pr _ _ k rfl, subSet_in _ _ _ hs k cs'[k] (by simp [h3])]
   simp [h3]
  ·rw [subSet_out _ _ _ hs _ (.inr (by omega)), Array.getElem?_eq_none (by rw [pre_size]; omega), Array.getElem?_eq_none (by rw [pre_size]; omega)]
theorem set_oneR {P : World → Prop} (W : World) (g i : Nat) (u : Value) (cs : Array Value) (t : TypeId) (h : W.heap[g]? = some (.cells cs t (0, 0)))
  (K : ∀ Y, Y.heap[g]? = some (.cells (cs.setIfInBounds i u) t (0, 0)) → Keep [g] W Y → P Y) : P (W.setCell ⟨g, i, none⟩ u) :=
 K _ (row_set h u) ((Keep.refl [g] W).setCell (p := ⟨g, i, none⟩) (.inl (by simp)) u)
theorem set_twoR {P : World → Prop} (W : World) (g i j : Nat) (u v : Value) (cs : Array Value) (t : TypeId) (h : W.heap[g]? = some (.cells cs t (0, 0)))
  (K : ∀ Y, Y.heap[g]? = some (.cells ((cs.setIfInBounds i u).setIfInBounds j v) t (0, 0)) → Keep [g] W Y → P Y) : P ((W.setCell ⟨g, i, none⟩ u).setCell ⟨g, j, none⟩ v) :=
 K _ (row_set (row_set h u) v) (((Keep.refl [g] W).setCell (p := ⟨g, i, none⟩) (.inl (by simp)) u).setCell (p := ⟨g, j, none⟩) (.inl (by simp)) v)
theorem set_threeR {P : World → Prop} (W : World) (g i j k : Nat) (u v x : Value) (cs : Array Value) (t : TypeId) (h : W.heap[g]? = some (.cells cs t (0, 0)))
  (K : ∀ Y, Y.heap[g]? = some (.cells (((cs.setIfInBounds i u).setIfInBounds j v).setIfInBounds k x) t (0, 0)) → Keep [g] W Y → P Y) : P (((W.setCell ⟨g, i, none⟩ u).setCell ⟨g, j, none⟩ v).setCell ⟨g, k, none⟩ x) :=
 K _ (row_set (row_set (row_set h u) v) x) ((((Keep.refl [g] W).setCell (p := ⟨g, i, none⟩) (.inl (by simp)) u).setCell (p := ⟨g, j, none⟩) (.inl (by simp)) v).setCell (p := ⟨g, k, none⟩) (.inl (by simp)) x)
theorem one4 (a b c d : Int) : (#[Value.int .i64 a, .int .i64 b, .int .i64 c, .int .i64 d].all (·.oneCell')) = true := by simp [Value.oneCell']
theorem wpList_build_to {P : Program} {ops : Array Oper} {rest : List Oper} {o : Oper} {a : Act} {w : World} {Q : Exit → Act → World → Prop} (hg : o.guard = none) (t : TypeId) (parts : Array (Nat × Operand)) (ho : o.op = .build t parts) (cells : Array Value)
  (hb : P.built t (parts.map fun (i, x) => (i, a.eval x)).toList = some cells) (h : wpList P ops Q rest (a.put o.dst (.agg cells)) w) : wpList P ops Q (o :: rest) a w :=
 wpList_build hg t parts ho (by rw [hb]; rfl) (by rw [hb]; exact h)
theorem below_grown_new {w w' : World} {o : Obj} (h : (w.alloc o).grownBy w' (some w.heap.size)) : Below w.heap.size w w' :=
 ⟨h.os, h.tape, h.output, Nat.le_trans (by simp) h.size, fun k hk => (h.block k (by simp; omega) (by simp; omega)).trans ((MapKept.heap_alloc w o).2 k hk)⟩
theorem below_grown_on {w w1 w' : World} {g : Nat} (hb : Below w.heap.size w w1) (hg : w.heap.size ≤ g) (h : w1.grownBy w' (some g)) : Below w.heap.size w w' :=
 ⟨h.os.trans hb.os, h.tape.trans hb.tape, h.output.trans hb.output, Nat.le_trans hb.size h.size, fun k hk => (h.block k (Nat.lt_of_lt_of_le hk hb.size) (by simp; omega)).trans (hb.block k hk)⟩
theorem Arn.drewN {w : World} {p b : Nat} {ws : List Int} (h : Arn w p b ws) (n : Nat) : Arn (w.drewN n) p b ws := ⟨h.box, h.row, h.ok, h.ne, h.small, h.some⟩
theorem Arn.drew {w : World} {p b : Nat} {ws : List Int} (h : Arn w p b ws) : Arn w.drew p b ws := ⟨h.box, h.row, h.ok, h.ne, h.small, h.some⟩
theorem infoCal7 : (Tryz.prog.info? 35).map (·.size) = some 7 := by kernel_rfl
theorem undCal7 : Tryz.prog.underlying 35 = some (.struct (Tryz.prog.fieldsOf 35)) := by kernel_rfl

/-- the handle of an object -/
def hdl (sc ep q : Int) : Int := q + 16777216 * sc + 4294967296 * ep

end Go.Proofs.YtbijaloeilnjoaaGreat

namespace Go.Proofs.YtbijaloeilnjoaaGreat
open Go.RowKit
set_option linter.unusedVariables false
set_option linter.unusedSimpArgs false

/-- a scope's block: what it is, where its extent begins, how great it is, how much is used -/
structure Blk (ws : List Int) (k : Nat) (c : Ctl) (ba bu tp : Int) : Prop where
 ctl : ws[8 * k]? = some (word c)
 ba : ws[8 * k + 1]? = some ba
 bu : ws[8 * k + 2]? = some bu
 tp : ws[8 * k + 3]? = some tp
 right : Right c
def takeR (c : Ctl) (ba bu tp : Int) (r : Rn) : Rn :=
 if r.pc = 5 then { r with next := c.ep, pc := 2 }
 else if r.pc = 2 then { r with at_ := ba, pc := 3 }
 else if r.pc = 3 then { r with word := bu, pc := 4 }
 else if tp + 8 * wordsN r.c.a r.c.b ≤ r.word then toldR r 0 (hdl r.area r.next ((r.at_ + tp) / 8)) noS
 else toldR r 17 0 noS
def takeW (ws : List Int) (k : Nat) (tp : Int) (r : Rn) : List Int :=
 if r.pc = 4 ∧ tp + 8 * wordsN r.c.a r.c.b ≤ r.word then
  ((ws.set (8 * k + 3) (tp + 8 * wordsN r.c.a r.c.b)).set ((r.at_ + tp) / 8).toNat (head1 (wordsN r.c.a r.c.b) r.c.a r.c.c)).set (((r.at_ + tp) / 8).toNat + 1) (head2 r.area r.next)
 else ws
/-- an allocation on its way, and its scope -/
structure TkIn (s : Int) (ws : List Int) (k : Nat) (c : Ctl) (ba bu tp : Int) (r : Rn) : Prop where
 blk : Blk ws k c ba bu tp
 area : r.area = k
 lt : (k : Int) ≤ s - 1
 s8 : s ≤ 8
 bd1 : 0 ≤ ba ∧ ba ≤ 65536
 bd2 : 0 ≤ bu ∧ bu ≤ 65536
 bd3 : 0 ≤ tp
 ca : 0 ≤ r.c.a ∧ r.c.a ≤ 6
 cb : 0 ≤ r.c.b ∧ r.c.b ≤ 512
 cc : 0 ≤ r.c.c ∧ r.c.c ≤ 7
 said : r.said = noS
 pcs : r.pc = 5 ∨ r.pc = 2 ∨ r.pc = 3 ∨ r.pc = 4
 nx : r.pc = 4 → 0 ≤ r.next ∧ r.next ≤ 16777215
 wd : r.pc = 4 → tp ≤ r.word ∧ r.word ≤ 65536
 at4 : r.pc = 4 → 8 * (8 * s) ≤ r.at_ ∧ r.at_ ≤ 65536 ∧ (r.at_ + tp) % 8 = 0 ∧ r.at_ + r.word ≤ 8 * ws.length
section
variable {s : Int} {ws : List Int} {k : Nat} {c : Ctl} {ba bu tp : Int} {r : Rn}
theorem TkIn.place (I : TkIn s ws k c ba bu tp r) (h4 : r.pc = 4) (hf : tp + 8 * wordsN r.c.a r.c.b ≤ r.word) :
  ∃ (K : Nat) (z0 z1 : Int), ws[K]? = some z0 ∧ ws[K + 1]? = some z1 ∧ 8 * k + 3 < K ∧ r.at_ + tp = ((K * 8 : Nat) : Int) ∧ 1 ≤ K ∧ ((r.at_ + tp) / 8).toNat = K ∧ (r.at_ + tp) / 8 = (K : Int) ∧ K + (wordsN r.c.a r.c.b).toNat ≤ ws.length := by
 obtain ⟨a1, a2, a3, a4⟩ := I.at4 h4
 have b3 := I.bd3
 have l := I.lt
 have hn : 2 ≤ wordsN r.c.a r.c.b := by have := I.ca; have := I.cb; unfold wordsN; omega
 have hK : ((r.at_ + tp) / 8).toNat + 1 < ws.length := by omega
 exact ⟨((r.at_ + tp) / 8).toNat, _, _, List.getElem?_eq_getElem (by omega), List.getElem?_eq_getElem hK, by omega, by omega, by omega, rfl, by omega, by omega⟩
theorem takeW_same (h : r.pc ≠ 4) : takeW ws k tp r = ws := by unfold takeW; rw [if_neg (fun e => h e.1)]
end
end Go.Proofs.YtbijaloeilnjoaaGreat

namespace Go.Proofs.YtbijaloeilnjoaaGreat
open Go.RowKit
set_option linter.unusedVariables false
set_option linter.unusedSimpArgs false

/-- a scope's block that may be -/
structure BlkOk (s : Int) (ws : List Int) (k : Nat) (c : Ctl) (ba bu tp : Int) : Prop where
 blk : Blk ws k c ba bu tp
 lt : (k : Int) ≤ s - 1
 s8 : s ≤ 8
 lo : 8 * (8 * s) ≤ ba
 hi : ba + bu ≤ 8 * ws.length
 small : ws.length ≤ 8192
 ba8 : ba % 8 = 0
 tp8 : tp % 8 = 0
 tp0 : 0 ≤ tp
 tpb : tp ≤ bu
/-- an allocation on its way -/
structure TkRun (k : Nat) (c : Ctl) (ba bu : Int) (ch : Sl) (r : Rn) : Prop where
 area : r.area = k
 ca : 0 ≤ r.c.a ∧ r.c.a ≤ 6
 cb : 0 ≤ r.c.b ∧ r.c.b ≤ 512
 cc : 0 ≤ r.c.c ∧ r.c.c ≤ 7
 said : r.said = noS
 list : r.list = noS
 asaid : r.asaid = noS
 chain : r.chain = ch
 done : r.done = false
 pcs : r.pc = 5 ∨ r.pc = 2 ∨ r.pc = 3 ∨ r.pc = 4
 nx : r.pc ≠ 5 → r.next = c.ep
 at4 : r.pc = 3 ∨ r.pc = 4 → r.at_ = ba
 wd : r.pc = 4 → r.word = bu
section
variable {s : Int} {ws : List Int} {k : Nat} {c : Ctl} {ba bu tp : Int} {r : Rn} {ch : Sl}
theorem tkIn_of (B : BlkOk s ws k c ba bu tp) (R : TkRun k c ba bu ch r) : TkIn s ws k c ba bu tp r := by
 have h1 := B.lo; have h2 := B.hi; have h3 := B.small; have h4 := B.tp0; have h5 := B.tpb; have h6 := B.ba8; have h7 := B.tp8; have h8 := B.lt; have h9 := B.s8
 refine ⟨B.blk, R.area, B.lt, B.s8, by omega, by omega, B.tp0, R.ca, R.cb, R.cc, R.said, R.pcs, fun h => ?_, fun h => ?_, fun h => ?_⟩
 ·rw [R.nx (by omega)]; exact ⟨B.blk.right.1, B.blk.right.2.1⟩
 ·rw [R.wd h]; omega
 ·rw [R.wd h, R.at4 (.inr h)]; omega
end
end Go.Proofs.YtbijaloeilnjoaaGreat

namespace Go.Proofs.YtbijaloeilnjoaaGreat
open Go.RowKit
set_option linter.unusedVariables false
set_option linter.unusedSimpArgs false

structure TwoW (B : Nat) (w : World) (p b X q d : Nat) (s t i h : Int) (ws wx : List Int) : Prop where
 a : Arn w p b ws
 x : RAll w X q d s t i h wx
 low : B ≤ p ∧ B ≤ b ∧ B ≤ X ∧ B ≤ q ∧ B ≤ d
 ne : X ≠ b ∧ q ≠ b ∧ d ≠ b ∧ p ≠ d
section
variable {B p b X q d : Nat} {s t i h : Int} {ws wx ws' wx' : List Int} {w w' a : World} {T : List Nat}
theorem TwoW.below (H : TwoW B w p b X q d s t i h ws wx) (hb : Below w.heap.size w w') : TwoW B w' p b X q d s t i h ws wx := { H with a := H.a.below hb, x := H.x.below hb }
theorem TwoW.drew (H : TwoW B w p b X q d s t i h ws wx) : TwoW B w.drew p b X q d s t i h ws wx := { H with a := H.a.drew, x := H.x.drew }
theorem TwoW.kept (H : TwoW B w p b X q d s t i h ws wx) (k : Keep T w w') (hT : ∀ j ∈ T, j ∉ [p, b, X, q, d]) : TwoW B w' p b X q d s t i h ws wx :=
 { H with a := H.a.kept k (fun e => hT _ e (by simp)) (fun e => hT _ e (by simp)), x := H.x.kept k (fun e => hT _ e (by simp)) (fun e => hT _ e (by simp)) (fun e => hT _ e (by simp)) }
theorem TwoW.onA (H : TwoW B w p b X q d s t i h ws wx) (ha : Arn w' p b ws') (k : Keep [b] w w') : TwoW B w' p b X q d s t i h ws' wx :=
 { H with a := ha, x := H.x.kept k (by simpa using H.ne.1) (by simpa using H.ne.2.1) (by simpa using H.ne.2.2.1) }
theorem TwoW.onX (H : TwoW B w p b X q d s t i h ws wx) (hx : RAll w' X q d s t i h wx') (k : Keep [d] w w') : TwoW B w' p b X q d s t i h ws wx' :=
 { H with x := hx, a := H.a.kept k (by simpa using H.ne.2.2.2) (by simpa using fun e => H.ne.2.2.1 e.symm) }
theorem TwoW.lt (H : TwoW B w p b X q d s t i h ws wx) : ∀ j ∈ [p, b, X, q, d], j < w.heap.size := by
 intro j hj
 have h1 := lt_of_heap H.a.box
 have h2 := lt_of_heap H.a.row
 have h3 : X < w.heap.size := by obtain ⟨gp, h⟩ := H.x.box; exact lt_of_heap h
 have h4 := lt_of_heap H.x.arn.box
 have h5 := lt_of_heap H.x.arn.row
 simp at hj
 rcases hj with rfl | rfl | rfl | rfl | rfl <;> assumption
theorem TwoW.fresh (H : TwoW B w p b X q d s t i h ws wx) {g : Nat} (hg : w.heap.size ≤ g) : g ∉ [p, b, X, q, d] := fun hm => by have := H.lt g hm; omega
theorem TwoW.elder (H : TwoW B w p b X q d s t i h ws wx) {g : Nat} (hg : g < B) : g ∉ [p, b, X, q, d] := by
 have := H.low
 simp
 omega
theorem TwoW.under (H : TwoW B w p b X q d s t i h ws wx) (hb : Below B a w) (k : Keep T w w') (hT : ∀ j ∈ T, j = b ∨ j = d) : Below B a w' :=
 Keep.under hb k (by have := H.low; have := H.lt p (by simp); omega) (fun j hj => by have := H.low; rcases hT j hj with rfl | rfl <;> omega)
theorem TwoW.nb (H : TwoW B w p b X q d s t i h ws wx) {g : Nat} (hg : g ∉ [p, b, X, q, d]) : g ≠ b ∧ g ≠ d := by simp at hg; omega
end
end Go.Proofs.YtbijaloeilnjoaaGreat
