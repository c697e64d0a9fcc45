/- Layer 16 in plain terms: two who store into one slot. Layer 16 in plain terms: two calls of any kind among each other. How the arguments of layer 16's laws are opened: calls, arrays of four bytes. -/
import Derived.Test.YtnimaajnlkbdaaaGreatMP
import Derived.Test.YtnimaajnlkbdaaaGreatFRest
import Derived.Test.YtnimaajnlkbdaaaGreatSteps
import Derived.Lib.SmallJoins
namespace Go.Proofs.YtnimaajnlkbdaaaGreat
open Go.RowKit
set_option linter.unusedVariables false
set_option linter.unusedSimpArgs false

/-- a store that is let in: where it is behind n steps -/
def stR (i v : Nat) (b : Int) (ch : Sl) : Nat → Rn
 | 0 => beg16k 2 i v 1 0 b ch
 | 1 => { beg16k 2 i v 1 0 b ch with pc := 6 }
 | 2 => { beg16k 2 i v 1 0 b ch with at_ := 8 * (kC i : Int) + 16 + 8 * b, pc := 7 }
 | 3 => { beg16k 2 i v 1 0 b ch with at_ := 8 * (kC i : Int) + 16 + 8 * b, pc := 8 }
 | 4 => { beg16k 2 i v 1 0 b ch with at_ := 8 * (kC i : Int) + 16 + 8 * b, pc := 10 }
 | _ => toldR { beg16k 2 i v 1 0 b ch with at_ := 8 * (kC i : Int) + 16 + 8 * b, pc := 10 } 0 0 noS
def stK (i : Nat) (b : Nat) : Nat := oK i + 2 + b
section
variable {i v b : Nat} {ch : Sl} {ws : List Int}
theorem st_beg (hi : i < 9) (hv : v < 9) : (beg16k 2 i v 1 0 (b : Int) ch).pc = 5 := by
 have hs := begS_ok (a := 0) (b := (b : Int)) (show 2 < 3 by decide) (show i < 12 by omega) (show v < 12 by omega) (show 1 < 4 by decide)
 have e : begS 2 i v 1 0 = (0, 5) := by
  unfold begS
  rw [if_pos (show 1 ≤ 1 from Nat.le_refl 1), chk16_le hi, if_pos (show i / 3 ≤ 2 by omega)]; rfl
 unfold beg16k rbeginRn
 rw [hs, e, if_pos rfl]
theorem st_in (hi : i < 9) (hv : v < 9) (hb : b < 2) {n : Nat} (hn : n < 5) : SlIn c16 (chE16 2) i v (stR i v (b : Int) ch n) := by
 have hp := st_beg (b := b) (ch := ch) hi hv
 have ho : (cal16k 1 0 (b : Int)).op = 9 := by show (8 : Int) + 1 = 9; decide
 have hat : (8 * (kC i : Int) + 16 + 8 * (b : Int)) = 8 * (kC i : Int) + 16 + 8 * (cal16k 1 0 (b : Int)).b := rfl
 obtain rfl | rfl | rfl | rfl | rfl : n = 0 ∨ n = 1 ∨ n = 2 ∨ n = 3 ∨ n = 4 := by omega
 ·exact ⟨rfl, rfl, ⟨by omega, by omega⟩, rfl, rfl, rfl, rfl, fun e => by omega, fun e => by omega, .inl ⟨hp, .inr ho, by omega⟩⟩
 ·exact ⟨rfl, rfl, ⟨by omega, by omega⟩, rfl, rfl, rfl, rfl, fun e => by omega, fun e => by omega, .inr (.inl ⟨rfl, .inr ho, by omega, by omega⟩)⟩
 ·exact ⟨rfl, rfl, ⟨by omega, by omega⟩, rfl, rfl, rfl, rfl, fun e => by omega, fun e => by omega, .inr (.inr (.inl ⟨.inl rfl, by omega, .inl ⟨ho, hi, hat, by show (0 : Int) ≤ (b : Int); omega, by show (b : Int) ≤ 1; omega⟩⟩))⟩
 ·exact ⟨rfl, rfl, ⟨by omega, by omega⟩, rfl, rfl, rfl, rfl, fun e => by omega, fun e => by omega, .inr (.inr (.inl ⟨.inr ⟨rfl, by omega⟩, by omega, .inl ⟨ho, hi, hat, by show (0 : Int) ≤ (b : Int); omega, by show (b : Int) ≤ 1; omega⟩⟩))⟩
 ·exact ⟨rfl, rfl, ⟨by omega, by omega⟩, rfl, rfl, rfl, rfl, fun e => by omega, fun e => by omega, .inr (.inr (.inr (.inl ⟨.inr ⟨rfl, ho⟩, hi, hat, by show (0 : Int) ≤ (b : Int); omega, by show (b : Int) ≤ 1; omega⟩)))⟩
theorem st_words (hi : i < 9) (hv : v < 9) (hb : b < 2) {n : Nat} (hn : n < 5) : slW ws (stR i v (b : Int) ch n) = if n = 4 then ws.set (stK i b) (hC v) else ws := by
 have hp := st_beg (b := b) (ch := ch) hi hv
 have hk : kC i = oK i := by unfold kC; rw [if_pos hi]
 unfold slW
 obtain rfl | rfl | rfl | rfl | rfl : n = 0 ∨ n = 1 ∨ n = 2 ∨ n = 3 ∨ n = 4 := by omega
 ·rw [if_neg (show ¬ ((stR i v (b : Int) ch 0).pc = 10 ∨ (stR i v (b : Int) ch 0).pc = 12) by show ¬ ((beg16k 2 i v 1 0 (b : Int) ch).pc = 10 ∨ (beg16k 2 i v 1 0 (b : Int) ch).pc = 12); omega), if_neg (by decide)]
 ·rw [if_neg (show ¬ ((stR i v (b : Int) ch 1).pc = 10 ∨ (stR i v (b : Int) ch 1).pc = 12) by show ¬ ((6 : Int) = 10 ∨ (6 : Int) = 12); decide), if_neg (by decide)]
 ·rw [if_neg (show ¬ ((stR i v (b : Int) ch 2).pc = 10 ∨ (stR i v (b : Int) ch 2).pc = 12) by show ¬ ((7 : Int) = 10 ∨ (7 : Int) = 12); decide), if_neg (by decide)]
 ·rw [if_neg (show ¬ ((stR i v (b : Int) ch 3).pc = 10 ∨ (stR i v (b : Int) ch 3).pc = 12) by show ¬ ((8 : Int) = 10 ∨ (8 : Int) = 12); decide), if_neg (by decide)]
 ·rw [if_pos (show ((stR i v (b : Int) ch 4).pc = 10 ∨ (stR i v (b : Int) ch 4).pc = 12) from .inl rfl), if_pos rfl]
  have e : lastK (stR i v (b : Int) ch 4) = stK i b := by
   unfold lastK stK
   rw [if_pos (show (stR i v (b : Int) ch 4).pc = 9 ∨ (stR i v (b : Int) ch 4).pc = 10 from .inr rfl)]
   show ((8 * (kC i : Int) + 16 + 8 * (b : Int)) / 8).toNat = _
   rw [hk]
   omega
  rw [e]
  rfl
theorem st_cell (hi : i < 9) (hb : b < 2) : Cell (stK i b) := .inl ⟨i, b, hi, hb, rfl⟩
end
def runsA (l : List Rn) : Array Value := (l.flatMap fun r => r.arr.toList).toArray
theorem arr_len (r : Rn) : ((fun r : Rn => r.arr.toList) r).length = 26 := rfl
theorem runs_get {l : List Rn} {k : Nat} {r : Rn} (hk : l[k]? = some r) {j : Nat} {v : Value} (hv : r.arr[j]? = some v) : (runsA l)[k * 26 + j]? = some v := by
 have hj : j < 26 := by
  rcases Nat.lt_or_ge j 26 with h | h
  ·exact h
  ·rw [Array.getElem?_eq_none (by simpa using h)] at hv; cases hv
 unfold runsA
 rw [List.getElem?_toArray, flat_get (fun r : Rn => r.arr.toList) 26 arr_len l k j hj, hk]
 simpa using hv
theorem runs_size (l : List Rn) : (runsA l).size = l.length * 26 := by
 unfold runsA
 rw [List.size_toArray, flat_length (fun r : Rn => r.arr.toList) 26 arr_len]
theorem runs_set {l : List Rn} {k : Nat} (hk : k < l.length) (r : Rn) : subSet (runsA l) (k * 26) r.arr = runsA (l.set k r) :=
 flat_subSet (fun r : Rn => r.arr) 26 (fun _ => rfl) l k r hk
theorem runs_cell {w : World} {g : Nat} {l : List Rn} {k : Nat} {r : Rn} {t : TypeId} (h : w.heap[g]? = some (.cells (runsA l) t (0, 0))) (hk : l[k]? = some r) {j : Nat} {v : Value} (hv : r.arr[j]? = some v) : w.cell? ⟨g, k * 26 + j, none⟩ = some v := by
 rw [row_cell h]; exact runs_get hk hv
theorem runs_one (l : List Rn) : (runsA l).all (·.oneCell') = true := by
 rw [Array.all_eq_true_iff_forall_mem]
 intro v hv
 unfold runsA at hv
 rw [List.mem_toArray] at hv
 obtain ⟨r, _, hr⟩ := List.mem_flatMap.1 hv
 exact (Array.all_eq_true_iff_forall_mem.1 (Rn.one r)) v (by simpa using hr)
theorem info2R : (Tryz.prog.info? 44).map (·.size) = some 52 := by kernel_rfl
theorem und2R : Tryz.prog.underlying 44 = some (.array 2 43) := by kernel_rfl
/-- no call at all -/
def zRn : Rn := ⟨⟨0, 0, 0, 0, 0, 0, 0⟩, 0, 0, 0, 0, noS, 0, 0, 0, 0, noS, 0, noS, 0, false, false, false, 0, 0, noS⟩
def dRn : Rn := { zRn with done := true }
theorem alloc2R (w : World) : (Instr.alloc 44 true (.tuple #[])).run Tryz.prog w = .ok (.pointer (some ⟨w.heap.size, 0, none⟩)) (w.alloc (.cells (runsA [zRn, zRn]) 44)) := by kernel_rfl
theorem wpList_alloc_to {P : Program} {ops : Array Oper} {rest : List Oper} {o : Oper} {a : Act} {w : World} {Q : Exit → Act → World → Prop} (hg : o.guard = none) (t : TypeId) (ho : o.op = .alloc t) (cs : Array Value)
  (hr : (Instr.alloc t true (.tuple #[])).run P w = .ok (.pointer (some ⟨w.heap.size, 0, none⟩)) (w.alloc (.cells cs t))) (h : wpList P ops Q rest (a.put o.dst (.pointer (some ⟨w.heap.size, 0, none⟩))) (w.alloc (.cells cs t))) : wpList P ops Q (o :: rest) a w :=
 wpList_plain hg fun K hK => by
  unfold Oper.wp execOp
  simp only [ho, hr, Sem.run_bind, Sem.run_pure, Result.andThen_ok]
  exact hK _ _ h
theorem mask1 (x : Int) : bits .and .i64 x 1 = x % 2 := i64_mask 1 x 1 (by omega) rfl
theorem bit_ex (E : Int) : ∃ kn : Nat, kn < 2 ∧ Value.int .i64 (bits .and .i64 E 1) = .int .i64 kn := by
 rw [mask1]
 exact ⟨(E % 2).toNat, by omega, by rw [Int.toNat_of_nonneg (by omega)]⟩
theorem mask6 (x : Int) : bits .and .i64 x 63 = x % 64 := i64_mask 6 x 63 (by omega) rfl
theorem step_store_sub {P : Program} {ops : Array Oper} {o : Oper} {a : Act} {w : World} {K : Act → World → Prop} {Q : Exit → Act → World → Prop} {E : Prop} (dd : Option Tmp) (hdd : o.dst = dd) (hgd : o.guard = none) (ty : TypeId) (x y : Operand) (ho : o.op = .store ty x y)
  (g off : Nat) (cells : Array Value) (hx : a.eval x = .pointer (some ⟨g, off, none⟩)) (hy : a.eval y = .agg cells)
  (t : TypeId) (old : Array Value) (hg : w.heap[g]? = some (.cells old t (0, 0))) (hi : (P.info? ty).map (·.size) = some cells.size)
  (hold : off + cells.size ≤ old.size) (h1 : cells.all (·.oneCell') = true)
  (h : K (a.put dd undef) (w.setRow g (subSet old off cells))) : if Region.wanted o (yielded ops a.tmps) = true then Oper.wp P o a w K Q else E := by
 subst hdd
 have hw : Region.wanted o (yielded ops a.tmps) = true := by simp [Region.wanted, hgd]
 rw [if_pos hw]
 exact wp_store_sub ty x y ho g off cells hx hy t old hg hi hold h1 h

/-- entries that lie in none of the blocks F -/
structure ChOk (w : World) (F : List Nat) (ch : Sl) : Prop where
 n : ch.n = 2
 c : 2 ≤ ch.c
 e : Ents w ch.a (chE16 2)
 f : ∀ z, 0 < (chE16 2).length → ch.a = some z → z.block ∉ F
section
variable {w w' : World} {F S : List Nat} {ch : Sl}
theorem ChOk.below (h : ChOk w F ch) (hb : Below w.heap.size w w') : ChOk w' F ch := { h with e := Ents.below h.e hb }
theorem ChOk.kept (h : ChOk w F ch) (k : Keep S w w') (hs : ∀ i ∈ S, i ∈ F) : ChOk w' F ch := { h with e := ents_kept h.e k (fun z h0 hz hm => h.f z h0 hz (hs _ hm)) }
end
/-- the first k of two stores, each some steps on -/
def AllS (i : Nat) (b : Int) (vx px : Nat → Nat) (k : Nat) (w : World) (F : List Nat) (l : List Rn) : Prop :=
 l.length = 2 ∧ ∀ x, x < k → ∃ ch, ChOk w F ch ∧ l[x]? = some (stR i (vx x) b ch (px x))
section
variable {i : Nat} {b : Int} {vx px : Nat → Nat} {k : Nat} {w w' : World} {F S : List Nat} {l : List Rn}
theorem AllS.below (h : AllS i b vx px k w F l) (hb : Below w.heap.size w w') : AllS i b vx px k w' F l := ⟨h.1, fun x hx => (h.2 x hx).imp fun _ q => ⟨q.1.below hb, q.2⟩⟩
theorem AllS.kept (h : AllS i b vx px k w F l) (kp : Keep S w w') (hs : ∀ i ∈ S, i ∈ F) : AllS i b vx px k w' F l := ⟨h.1, fun x hx => (h.2 x hx).imp fun _ q => ⟨q.1.kept kp hs, q.2⟩⟩
def updN (px : Nat → Nat) (k n : Nat) : Nat → Nat := fun x => if x = k then n else px x
theorem AllS.next (h : AllS i b vx px k w F l) (hk : k < 2) {ch : Sl} (hc : ChOk w F ch) (hp : px k = 0) : AllS i b vx px (k + 1) w F (l.set k (stR i (vx k) b ch 0)) := by
 refine ⟨by simpa using h.1, fun x hx => ?_⟩
 by_cases e : k = x
 ·subst e
  exact ⟨ch, hc, by rw [List.getElem?_set, if_pos rfl, if_pos (by rw [h.1]; exact hk), hp]⟩
 ·obtain ⟨c2, h1, h2⟩ := h.2 x (by omega)
  exact ⟨c2, h1, by rw [List.getElem?_set, if_neg e]; exact h2⟩
theorem AllS.step (h : AllS i b vx px 2 w F l) {k : Nat} (hk : k < 2) {ch : Sl} (hc : ChOk w F ch) {n : Nat} : AllS i b vx (updN px k n) 2 w F (l.set k (stR i (vx k) b ch n)) := by
 refine ⟨by simpa using h.1, fun x hx => ?_⟩
 unfold updN
 by_cases e : k = x
 ·subst e
  exact ⟨ch, hc, by rw [List.getElem?_set, if_pos rfl, if_pos (by rw [h.1]; exact hk), if_pos rfl]⟩
 ·obtain ⟨c2, h1, h2⟩ := h.2 x hx
  exact ⟨c2, h1, by rw [List.getElem?_set, if_neg e, if_neg (fun q => e q.symm)]; exact h2⟩
end
/-- two stores among each other: behind n turns x is px x steps on; the last one who stepped was s -/
structure StL (i b : Nat) (vx : Nat → Nat) (ws : List Int) (n : Nat) (px : Nat → Nat) (s : Nat) : Prop where
 lw : Lw c16 ws
 le : ∀ x, x < 2 → px x ≤ 5
 pr : ∀ x, x < 2 → px x = 5 ∨ (n : Int) - 16 ≤ 2 * (px x : Int) + x
 s2 : s < 2
 last : px 0 = 5 → px 1 = 5 → ws[stK i b]? = some (hC (vx s))
section
variable {i b : Nat} {vx px : Nat → Nat} {ws : List Int} {n s k : Nat} {ch : Sl}
theorem StL.skip (S : StL i b vx ws n px s) (hk : k < 2) (hn : 16 ≤ n → n % 2 = k) (h5 : px k = 5) : StL i b vx ws (n + 1) px s := by
 refine { S with pr := fun x hx => ?_ }
 by_cases e : x = k
 ·subst e; exact .inl h5
 ·rcases S.pr x hx with h | h
  ·exact .inl h
  ·refine .inr ?_
   by_cases h16 : 16 ≤ n
   ·have := hn h16; omega
   ·omega
theorem StL.step (S : StL i b vx ws n px s) (hi : i < 9) (hv : ∀ x, x < 2 → vx x < 9) (hb : b < 2) (hk : k < 2) (hn : 16 ≤ n → n % 2 = k) (h5 : px k < 5) : StL i b vx (slW ws (stR i (vx k) (b : Int) ch (px k))) (n + 1) (updN px k (px k + 1)) k := by
 have hw := st_words (ws := ws) (ch := ch) hi (hv k hk) hb h5
 refine ⟨slW_lw S.lw (st_in hi (hv k hk) hb h5), fun x hx => ?_, fun x hx => ?_, hk, fun h0 h1 => ?_⟩
 ·unfold updN
  split
  ·omega
  ·exact S.le x hx
 ·unfold updN
  by_cases e : x = k
  ·rw [if_pos e]
   have h := S.pr k hk
   by_cases h16 : 16 ≤ n
   ·have := hn h16; omega
   ·omega
  ·rw [if_neg e]
   rcases S.pr x hx with h | h
   ·exact .inl h
   ·refine .inr ?_
    by_cases h16 : 16 ≤ n
    ·have := hn h16; omega
    ·omega
 ·have h4 : px k = 4 := by
   have h : updN px k (px k + 1) k = 5 := by
    obtain rfl | rfl : k = 0 ∨ k = 1 := by omega
    ·exact h0
    ·exact h1
   unfold updN at h
   rw [if_pos rfl] at h
   omega
  rw [hw, if_pos h4, List.getElem?_set, if_pos rfl, if_pos (by have := S.lw.len; have := cell_lt (st_cell hi hb); omega)]
end
end Go.Proofs.YtnimaajnlkbdaaaGreat

namespace Go.Proofs.YtnimaajnlkbdaaaGreat
open Go.RowKit
set_option linter.unusedVariables false
set_option linter.unusedSimpArgs false

/-- entries of a thread that lie in none of the blocks F -/
structure ChM (m : Nat) (w : World) (F : List Nat) (ch : Sl) : Prop where
 n : ch.n = (chE16 m).length
 c : (chE16 m).length ≤ ch.c
 e : Ents w ch.a (chE16 m)
 f : ∀ z, 0 < (chE16 m).length → ch.a = some z → z.block ∉ F
section
variable {m : Nat} {w w' : World} {F S : List Nat} {ch : Sl}
theorem ChM.below (h : ChM m w F ch) (hb : Below w.heap.size w w') : ChM m w' F ch := { h with e := Ents.below h.e hb }
theorem ChM.kept (h : ChM m w F ch) (k : Keep S w w') (hs : ∀ i ∈ S, i ∈ F) : ChM m w' F ch := { h with e := ents_kept h.e k (fun z h0 hz hm => h.f z h0 hz (hs _ hm)) }
end
/-- a Run of the law (the program's, the document's): done, or both on their way -/
def RunP (w : World) (F : List Nat) (r r' : Rn) : Prop := r.done = true ∨ (r' = r ∧ ∃ m j v, m < 3 ∧ ChM m w F r.chain ∧ SlIn c16 (chE16 m) j v r)
theorem RunP.below {w w' : World} {F : List Nat} {r r' : Rn} (h : RunP w F r r') (hb : Below w.heap.size w w') : RunP w' F r r' :=
 h.imp id fun ⟨e, m, j, v, hm, hc, hi⟩ => ⟨e, m, j, v, hm, hc.below hb, hi⟩
theorem RunP.kept {w w' : World} {F S : List Nat} {r r' : Rn} (h : RunP w F r r') (k : Keep S w w') (hs : ∀ i ∈ S, i ∈ F) : RunP w' F r r' :=
 h.imp id fun ⟨e, m, j, v, hm, hc, hi⟩ => ⟨e, m, j, v, hm, hc.kept k hs, hi⟩
/-- two Runs, of the program's and of the document's, but the one at x -/
def AllX (x : Nat) (w : World) (F : List Nat) (l l' : List Rn) : Prop :=
 l.length = 2 ∧ l'.length = 2 ∧ ∀ k, k < 2 → k ≠ x → ∃ r r', l[k]? = some r ∧ l'[k]? = some r' ∧ RunP w F r r'
section
variable {x : Nat} {w w' : World} {F S : List Nat} {l l' : List Rn}
theorem AllX.below (h : AllX x w F l l') (hb : Below w.heap.size w w') : AllX x w' F l l' :=
 ⟨h.1, h.2.1, fun k hk hx => by obtain ⟨r, r', a, b, c⟩ := h.2.2 k hk hx; exact ⟨r, r', a, b, c.below hb⟩⟩
theorem AllX.kept (h : AllX x w F l l') (kp : Keep S w w') (hs : ∀ i ∈ S, i ∈ F) : AllX x w' F l l' :=
 ⟨h.1, h.2.1, fun k hk hx => by obtain ⟨r, r', a, b, c⟩ := h.2.2 k hk hx; exact ⟨r, r', a, b, c.kept kp hs⟩⟩
theorem AllX.but (h : AllX 2 w F l l') (x : Nat) : AllX x w F l l' := ⟨h.1, h.2.1, fun k hk _ => h.2.2 k hk (by omega)⟩
theorem AllX.setA (h : AllX x w F l l') (r : Rn) : AllX x w F (l.set x r) l' :=
 ⟨by simpa using h.1, h.2.1, fun k hk hx => by
  obtain ⟨a, b, h1, h2, h3⟩ := h.2.2 k hk hx
  exact ⟨a, b, by rw [List.getElem?_set, if_neg (fun e => hx e.symm)]; exact h1, h2, h3⟩⟩
theorem AllX.setB (h : AllX x w F l l') (r : Rn) : AllX x w F l (l'.set x r) :=
 ⟨h.1, by simpa using h.2.1, fun k hk hx => by
  obtain ⟨a, b, h1, h2, h3⟩ := h.2.2 k hk hx
  exact ⟨a, b, h1, by rw [List.getElem?_set, if_neg (fun e => hx e.symm)]; exact h2, h3⟩⟩
theorem AllX.all (h : AllX x w F l l') {r r' : Rn} (h1 : l[x]? = some r) (h2 : l'[x]? = some r') (hr : RunP w F r r') : AllX 2 w F l l' :=
 ⟨h.1, h.2.1, fun k hk _ => by
  by_cases e : k = x
  ·subst e; exact ⟨r, r', h1, h2, hr⟩
  ·exact h.2.2 k hk e⟩
theorem AllX.start (w : World) (F : List Nat) : AllX 2 w F [dRn, dRn] [dRn, dRn] :=
 ⟨rfl, rfl, fun k hk _ => by
  obtain rfl | rfl : k = 0 ∨ k = 1 := by omega
  all_goals exact ⟨dRn, dRn, rfl, rfl, .inl rfl⟩⟩
theorem AllX.get (h : AllX 2 w F l l') {k : Nat} (hk : k < 2) : ∃ r r', l[k]? = some r ∧ l'[k]? = some r' ∧ RunP w F r r' := h.2.2 k hk (by omega)
end
/-- how a call begins: on its way, or refused at once -/
theorem beg16_or {m j v k : Nat} {a b : Int} {ch : Sl} (hm : m < 3) (hj : j < 12) (hv : v < 12) (hk : k < 4) :
  SlIn c16 (chE16 m) j v (beg16k m j v k a b ch) ∨ ((beg16k m j v k a b ch).done = false ∧ (beg16k m j v k a b ch).pc = 0) := by
 by_cases h : (begS m j v k a).1 = 0
 ·exact .inl (beg16_in hm hj hv hk (fun _ => c16_ep1) (fun _ => c16_ep1) h)
 ·refine .inr ⟨rfl, ?_⟩
  unfold beg16k rbeginRn
  rw [begS_ok hm hj hv hk]
  exact if_neg h
end Go.Proofs.YtnimaajnlkbdaaaGreat

namespace Go.Proofs.YtnimaajnlkbdaaaGreat
open Go.RowKit Go.ChangeShapes Go.WideShapes
set_option linter.unusedVariables false

structure Use16 where
  op : Int
  who : Int
  h : Int
  v : Int
  b : Int
  a : Int
abbrev useCells (u : Use16) : List Value := [.int .u8 u.op, .int .u8 u.who, .int .u8 u.h, .int .u8 u.v, .int .i64 u.b, .int .i64 u.a]
structure Use16Ok (u : Use16) : Prop where
  op : 0 ≤ u.op ∧ u.op ≤ 255
  who : 0 ≤ u.who ∧ u.who ≤ 255
  h : 0 ≤ u.h ∧ u.h ≤ 255
  v : 0 ≤ u.v ∧ u.v ≤ 255
  b : -9223372036854775808 ≤ u.b ∧ u.b ≤ 9223372036854775807
  a : -9223372036854775808 ≤ u.a ∧ u.a ≤ 9223372036854775807
theorem uses_len (l : List Use16) : (l.flatMap useCells).length = l.length * 6 := flat_length useCells 6 (fun _ => rfl) l
theorem uses_at {w : World} {A : Option Addr} {l : List Use16} (h : Cells w A (l.flatMap useCells)) (h0 : 0 < l.length) : ∃ b off, A = some ⟨b, off, none⟩ ∧ b < w.heap.size ∧
    ∀ k x, l[k]? = some x → ∀ (j : Nat) u, (useCells x)[j]? = some u → w.cell? ⟨b, off + k * 6 + j, none⟩ = some u := by
  obtain ⟨b, off, e, hb, hc⟩ := Cells.at_ h (by rw [uses_len]; omega)
  refine ⟨b, off, e, hb, fun k x hk j u hu => ?_⟩
  have hj : j < 6 := by
    rcases Nat.lt_or_ge j 6 with h | h
    · exact h
    · rw [List.getElem?_eq_none (by simpa using h)] at hu; cases hu
  have h1 := hc (k * 6 + j) u (by rw [flat_get useCells 6 (fun _ => rfl) l k j hj, hk]; exact hu)
  rw [Nat.add_assoc]
  exact h1
theorem wf16_u8 {x : Int} (h : (Lit.int .u8 x).wf = true) : 0 ≤ x ∧ x ≤ 255 := by
  simpa [Lit.wf, IntKind.min, IntKind.max, IntKind.signed, IntKind.bits] using h
theorem wf16_int {x : Int} (h : (Lit.int .i64 x).wf = true) : -9223372036854775808 ≤ x ∧ x ≤ 9223372036854775807 := by
  simpa [Lit.wf, IntKind.min, IntKind.max, IntKind.signed, IntKind.bits] using h
theorem wf16_u64 {x : Int} (h : (Lit.int .u64 x).wf = true) : 0 ≤ x ∧ x ≤ 18446744073709551615 := by
  simpa [Lit.wf, IntKind.min, IntKind.max, IntKind.signed, IntKind.bits] using h
set_option maxRecDepth 100000 in
theorem use_of_trod {H : Type} {enc : TypeId × Value → H} {w : World} {base : Nat} {spare : Nat → Bool} {held : Bool} (n : Nat) (cs : List Value) (y : DataW H × List MemPlace)
    (h : DataW.trod enc Tryz.prog w base spare held n 47 cs = some y) : ∃ c : Use16, cs = useCells c ∧ Use16Ok c := by
  obtain ⟨xs, m, _, _, hl, hxl, hi⟩ := DataW.trod_struct Tryz.underlying47 h
  have hl7 : cs.length = 6 := hl.trans (by kernel_rfl)
  have hx7 : xs.length = 6 := hxl
  have k0 : Tryz.prog.cellsOf 5 = 1 := by kernel_rfl
  have k1 : Tryz.prog.cellsOf 3 = 1 := by kernel_rfl
  match cs, hl7, xs, hx7 with
  | [c0, c1, c2, c3, c4, c5], _, [x0, x1, x2, x3, x4, x5], _ =>
    have h0 : DataW.trod enc Tryz.prog w base spare held m 5 (([c0, c1, c2, c3, c4, c5].drop 0).take (Tryz.prog.cellsOf 5)) = some x0 := hi 0 _ rfl
    have h1 : DataW.trod enc Tryz.prog w base spare held m 5 (([c0, c1, c2, c3, c4, c5].drop 1).take (Tryz.prog.cellsOf 5)) = some x1 := hi 1 _ rfl
    have h2 : DataW.trod enc Tryz.prog w base spare held m 5 (([c0, c1, c2, c3, c4, c5].drop 2).take (Tryz.prog.cellsOf 5)) = some x2 := hi 2 _ rfl
    have h3 : DataW.trod enc Tryz.prog w base spare held m 5 (([c0, c1, c2, c3, c4, c5].drop 3).take (Tryz.prog.cellsOf 5)) = some x3 := hi 3 _ rfl
    have h4 : DataW.trod enc Tryz.prog w base spare held m 3 (([c0, c1, c2, c3, c4, c5].drop 4).take (Tryz.prog.cellsOf 3)) = some x4 := hi 4 _ rfl
    have h5 : DataW.trod enc Tryz.prog w base spare held m 3 (([c0, c1, c2, c3, c4, c5].drop 5).take (Tryz.prog.cellsOf 3)) = some x5 := hi 5 _ rfl
    rw [k0] at h0 h1 h2 h3
    rw [k1] at h4 h5
    obtain ⟨a0, e0, _, w0⟩ := DataW.trod_int Tryz.underlying5 h0
    obtain ⟨a1, e1, _, w1⟩ := DataW.trod_int Tryz.underlying5 h1
    obtain ⟨a2, e2, _, w2⟩ := DataW.trod_int Tryz.underlying5 h2
    obtain ⟨a3, e3, _, w3⟩ := DataW.trod_int Tryz.underlying5 h3
    obtain ⟨a4, e4, _, w4⟩ := DataW.trod_int Tryz.underlying3 h4
    obtain ⟨a5, e5, _, w5⟩ := DataW.trod_int Tryz.underlying3 h5
    simp at e0 e1 e2 e3 e4 e5
    subst e0 e1 e2 e3 e4 e5
    exact ⟨⟨a0, a1, a2, a3, a4, a5⟩, rfl, ⟨wf16_u8 w0, wf16_u8 w1, wf16_u8 w2, wf16_u8 w3, wf16_int w4, wf16_int w5⟩⟩
set_option maxRecDepth 100000 in
theorem open_case16 {H : Type} {enc : TypeId × Value → H} {w : World} {base : Nat} {spare : Nat → Bool} {held : Bool} {r : Reach} {b0 : Nat} {v : Value} {d : DataW H} {p : List MemPlace}
    (hv : Value.okWide Tryz.prog w r b0 25 v) (h : DataW.Trod enc Tryz.prog w base spare held 25 v d p) :
    ∃ (A : Option Addr) (k : Nat) (l : List Use16) (tn : Int), v = .agg #[.slice A l.length k, .int .u64 tn] ∧ (l.length ≤ k ∧ k ≤ maxLen ∧ Cells w A (l.flatMap useCells) ∧ ∀ t ∈ l, Use16Ok t) ∧ (0 ≤ tn ∧ tn ≤ 18446744073709551615) := by
  obtain ⟨cs, rfl, _⟩ := okWide_struct Tryz.underlying25 hv
  obtain ⟨fuel, hf⟩ := h
  obtain ⟨y0, y1, m, _, hl, h0, h1⟩ := Go.ChangeShapes.trod_struct2 Tryz.underlying25 hf
  have k0 : Tryz.prog.cellsOf 22 = 1 := by kernel_rfl
  have k1 : Tryz.prog.cellsOf 23 = 1 := by kernel_rfl
  obtain ⟨cl⟩ := cs
  have hl2 : cl.length = 2 := by
    have : (Value.agg ⟨cl⟩).cells.toList.length = 2 := hl.trans (by kernel_rfl)
    simpa [Value.cells] using this
  rw [k0] at h0
  rw [k1] at h1
  match cl, hl2 with
  | [c0, c1], _ =>
    simp only [Value.cells, List.drop, List.take] at h0 h1
    obtain ⟨tn, e1, _, hw⟩ := DataW.trod_int Tryz.underlying23 h1
    simp at e1
    subst e1
    have hs : ∃ A n' k, c0 = .slice A n' k := by
      rcases DataW.trod_slice Tryz.underlying22 h0 with ⟨q, _⟩ | ⟨a, len, cap, _, _, _, _, q, _⟩
      · simp at q; exact ⟨none, 0, 0, q⟩
      · simp at q; exact ⟨some a, len, cap, q⟩
    obtain ⟨A, n', k, rfl⟩ := hs
    obtain ⟨l, rfl, a1, a2, a3, a4⟩ := rows_of (size := 6) useCells Use16Ok (by decide) (fun _ => rfl) Tryz.underlying22 (by kernel_rfl) (use_of_trod (enc := enc) (w := w)) h0
    exact ⟨A, k, l, tn, rfl, ⟨a1, a2, a3, a4⟩, wf16_u64 hw⟩
end Go.Proofs.YtnimaajnlkbdaaaGreat
