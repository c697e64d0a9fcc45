/- Layer 16 in plain terms: two who store into one slot. -/
import Derived.Test.YtnimaajnlkbdaaaGreatMP
import Derived.Test.YtnimaajnlkbdaaaGreatFRest
import Derived.Test.YtnimaajnlkbdaaaGreatSteps
namespace Go.Proofs.YtnimaajnlkbdaaaGreat
open Go.RowKit
set_option linter.unusedVariables false
set_option linter.unusedSimpArgs false

/-- a store that is let in: where it is behind n steps -/
def stR (i v : Nat) (b : Int) (ch : Sl) : Nat → Rn
 | 0 => beg16k 2 i v 1 0 b ch
 | 1 => { beg16k 2 i v 1 0 b ch with pc := 6 }
 | 2 => { beg16k 2 i v 1 0 b ch with at_ := 8 * (kC i : Int) + 16 + 8 * b, pc := 7 }
 | 3 => { beg16k 2 i v 1 0 b ch with at_ := 8 * (kC i : Int) + 16 + 8 * b, pc := 8 }
 | 4 => { beg16k 2 i v 1 0 b ch with at_ := 8 * (kC i : Int) + 16 + 8 * b, pc := 10 }
 | _ => toldR { beg16k 2 i v 1 0 b ch with at_ := 8 * (kC i : Int) + 16 + 8 * b, pc := 10 } 0 0 noS
def stK (i : Nat) (b : Nat) : Nat := oK i + 2 + b
section
variable {i v b : Nat} {ch : Sl} {ws : List Int}
theorem st_beg (hi : i < 9) (hv : v < 9) : (beg16k 2 i v 1 0 (b : Int) ch).pc = 5 := by
 have hs := begS_ok (a := 0) (b := (b : Int)) (show 2 < 3 by decide) (show i < 12 by omega) (show v < 12 by omega) (show 1 < 4 by decide)
 have e : begS 2 i v 1 0 = (0, 5) := by
  unfold begS
  rw [if_pos (show 1 ≤ 1 from Nat.le_refl 1), chk16_le hi, if_pos (show i / 3 ≤ 2 by omega)]; rfl
 unfold beg16k rbeginRn
 rw [hs, e, if_pos rfl]
theorem st_in (hi : i < 9) (hv : v < 9) (hb : b < 2) {n : Nat} (hn : n < 5) : SlIn c16 (chE16 2) i v (stR i v (b : Int) ch n) := by
 have hp := st_beg (b := b) (ch := ch) hi hv
 have ho : (cal16k 1 0 (b : Int)).op = 9 := by show (8 : Int) + 1 = 9; decide
 have hat : (8 * (kC i : Int) + 16 + 8 * (b : Int)) = 8 * (kC i : Int) + 16 + 8 * (cal16k 1 0 (b : Int)).b := rfl
 obtain rfl | rfl | rfl | rfl | rfl : n = 0 ∨ n = 1 ∨ n = 2 ∨ n = 3 ∨ n = 4 := by omega
 ·exact ⟨rfl, rfl, ⟨by omega, by omega⟩, rfl, rfl, rfl, rfl, fun e => by omega, fun e => by omega, .inl ⟨hp, .inr ho, by omega⟩⟩
 ·exact ⟨rfl, rfl, ⟨by omega, by omega⟩, rfl, rfl, rfl, rfl, fun e => by omega, fun e => by omega, .inr (.inl ⟨rfl, .inr ho, by omega, by omega⟩)⟩
 ·exact ⟨rfl, rfl, ⟨by omega, by omega⟩, rfl, rfl, rfl, rfl, fun e => by omega, fun e => by omega, .inr (.inr (.inl ⟨.inl rfl, by omega, .inl ⟨ho, hi, hat, by show (0 : Int) ≤ (b : Int); omega, by show (b : Int) ≤ 1; omega⟩⟩))⟩
 ·exact ⟨rfl, rfl, ⟨by omega, by omega⟩, rfl, rfl, rfl, rfl, fun e => by omega, fun e => by omega, .inr (.inr (.inl ⟨.inr ⟨rfl, by omega⟩, by omega, .inl ⟨ho, hi, hat, by show (0 : Int) ≤ (b : Int); omega, by show (b : Int) ≤ 1; omega⟩⟩))⟩
 ·exact ⟨rfl, rfl, ⟨by omega, by omega⟩, rfl, rfl, rfl, rfl, fun e => by omega, fun e => by omega, .inr (.inr (.inr (.inl ⟨.inr ⟨rfl, ho⟩, hi, hat, by show (0 : Int) ≤ (b : Int); omega, by show (b : Int) ≤ 1; omega⟩)))⟩
theorem st_next (hi : i < 9) (hv : v < 9) (hb : b < 2) (hl : v / 3 ≤ i / 3) {n : Nat} (hn : n < 5) : slR c16 (chE16 2) ws i v (stR i v (b : Int) ch n) = stR i v (b : Int) ch (n + 1) := by
 have hp := st_beg (b := b) (ch := ch) hi hv
 have ho : (cal16k 1 0 (b : Int)).op = 9 := by show (8 : Int) + 1 = 9; decide
 have hB : inB (b : Int) 0 1 = true := decide_eq_true (by omega)
 obtain rfl | rfl | rfl | rfl | rfl : n = 0 ∨ n = 1 ∨ n = 2 ∨ n = 3 ∨ n = 4 := by omega
 ·show slR c16 (chE16 2) ws i v (beg16k 2 i v 1 0 (b : Int) ch) = _
  unfold slR
  rw [if_pos hp]
  unfold freshR
  rw [if_pos (c16_fresh i hi)]
  rfl
 ·unfold slR
  rw [if_neg (show ¬ (stR i v (b : Int) ch 1).pc = 5 by show ¬ (6 : Int) = 5; decide), if_pos (show (stR i v (b : Int) ch 1).pc = 6 from rfl)]
  unfold handR
  rw [if_neg (show ¬ i = 10 by omega), if_neg (show ¬ inB (stR i v (b : Int) ch 1).c.b 0 1 = false by show ¬ inB (b : Int) 0 1 = false; rw [hB]; decide), if_neg (show ¬ (stR i v (b : Int) ch 1).c.op = 8 by show ¬ ((8 : Int) + 1 = 8); decide), if_neg (show ¬ v = 11 by omega), sC_ok hv, reach16 (by decide) (by omega), if_pos (by simp; omega)]
  rfl
 ·unfold slR
  rw [if_neg (show ¬ (stR i v (b : Int) ch 2).pc = 5 by show ¬ (7 : Int) = 5; decide), if_neg (show ¬ (stR i v (b : Int) ch 2).pc = 6 by show ¬ (7 : Int) = 6; decide), if_pos (show (stR i v (b : Int) ch 2).pc = 7 from rfl)]
  unfold freshR
  rw [if_pos (c16_fresh v hv)]
  rfl
 ·unfold slR
  rw [if_neg (show ¬ (stR i v (b : Int) ch 3).pc = 5 by show ¬ (8 : Int) = 5; decide), if_neg (show ¬ (stR i v (b : Int) ch 3).pc = 6 by show ¬ (8 : Int) = 6; decide), if_neg (show ¬ (stR i v (b : Int) ch 3).pc = 7 by show ¬ (8 : Int) = 7; decide), if_pos (show (stR i v (b : Int) ch 3).pc = 8 from rfl)]
  unfold valueR
  rw [if_neg (show ¬ v = 10 by omega), if_pos (show (stR i v (b : Int) ch 3).c.op = 9 from ho), sC_ok hv, sC_ok hi, above16 (by decide) (by omega) (by omega), if_pos (by simp; exact hl), if_pos (show (stR i v (b : Int) ch 3).c.op = 9 from ho)]
  rfl
 ·unfold slR
  rw [if_neg (show ¬ (stR i v (b : Int) ch 4).pc = 5 by show ¬ (10 : Int) = 5; decide), if_neg (show ¬ (stR i v (b : Int) ch 4).pc = 6 by show ¬ (10 : Int) = 6; decide), if_neg (show ¬ (stR i v (b : Int) ch 4).pc = 7 by show ¬ (10 : Int) = 7; decide), if_neg (show ¬ (stR i v (b : Int) ch 4).pc = 8 by show ¬ (10 : Int) = 8; decide), if_neg (show ¬ ((stR i v (b : Int) ch 4).pc = 9 ∨ (stR i v (b : Int) ch 4).pc = 11) by show ¬ ((10 : Int) = 9 ∨ (10 : Int) = 11); decide)]
  rfl
theorem st_words (hi : i < 9) (hv : v < 9) (hb : b < 2) {n : Nat} (hn : n < 5) : slW ws (stR i v (b : Int) ch n) = if n = 4 then ws.set (stK i b) (hC v) else ws := by
 have hp := st_beg (b := b) (ch := ch) hi hv
 have hk : kC i = oK i := by unfold kC; rw [if_pos hi]
 unfold slW
 obtain rfl | rfl | rfl | rfl | rfl : n = 0 ∨ n = 1 ∨ n = 2 ∨ n = 3 ∨ n = 4 := by omega
 ·rw [if_neg (show ¬ ((stR i v (b : Int) ch 0).pc = 10 ∨ (stR i v (b : Int) ch 0).pc = 12) by show ¬ ((beg16k 2 i v 1 0 (b : Int) ch).pc = 10 ∨ (beg16k 2 i v 1 0 (b : Int) ch).pc = 12); omega), if_neg (by decide)]
 ·rw [if_neg (show ¬ ((stR i v (b : Int) ch 1).pc = 10 ∨ (stR i v (b : Int) ch 1).pc = 12) by show ¬ ((6 : Int) = 10 ∨ (6 : Int) = 12); decide), if_neg (by decide)]
 ·rw [if_neg (show ¬ ((stR i v (b : Int) ch 2).pc = 10 ∨ (stR i v (b : Int) ch 2).pc = 12) by show ¬ ((7 : Int) = 10 ∨ (7 : Int) = 12); decide), if_neg (by decide)]
 ·rw [if_neg (show ¬ ((stR i v (b : Int) ch 3).pc = 10 ∨ (stR i v (b : Int) ch 3).pc = 12) by show ¬ ((8 : Int) = 10 ∨ (8 : Int) = 12); decide), if_neg (by decide)]
 ·rw [if_pos (show ((stR i v (b : Int) ch 4).pc = 10 ∨ (stR i v (b : Int) ch 4).pc = 12) from .inl rfl), if_pos rfl]
  have e : lastK (stR i v (b : Int) ch 4) = stK i b := by
   unfold lastK stK
   rw [if_pos (show (stR i v (b : Int) ch 4).pc = 9 ∨ (stR i v (b : Int) ch 4).pc = 10 from .inr rfl)]
   show ((8 * (kC i : Int) + 16 + 8 * (b : Int)) / 8).toNat = _
   rw [hk]
   omega
  rw [e]
  rfl
theorem st_done : (stR i v (b : Int) ch 5).done = true ∧ (stR i v (b : Int) ch 5).code = 0 := ⟨rfl, rfl⟩
theorem st_not {n : Nat} (hn : n < 5) : (stR i v (b : Int) ch n).done = false := by
 obtain rfl | rfl | rfl | rfl | rfl : n = 0 ∨ n = 1 ∨ n = 2 ∨ n = 3 ∨ n = 4 := by omega
 all_goals rfl
theorem st_chain {n : Nat} : (stR i v (b : Int) ch n).chain = ch := by
 rcases n with _ | _ | _ | _ | _ | n
 all_goals rfl
theorem st_cell (hi : i < 9) (hb : b < 2) : Cell (stK i b) := .inl ⟨i, b, hi, hb, rfl⟩
end
def runsA (l : List Rn) : Array Value := (l.flatMap fun r => r.arr.toList).toArray
theorem arr_len (r : Rn) : ((fun r : Rn => r.arr.toList) r).length = 26 := rfl
theorem runs_get {l : List Rn} {k : Nat} {r : Rn} (hk : l[k]? = some r) {j : Nat} {v : Value} (hv : r.arr[j]? = some v) : (runsA l)[k * 26 + j]? = some v := by
 have hj : j < 26 := by
  rcases Nat.lt_or_ge j 26 with h | h
  ·exact h
  ·rw [Array.getElem?_eq_none (by simpa using h)] at hv; cases hv
 unfold runsA
 rw [List.getElem?_toArray, flat_get (fun r : Rn => r.arr.toList) 26 arr_len l k j hj, hk]
 simpa using hv
theorem runs_size (l : List Rn) : (runsA l).size = l.length * 26 := by
 unfold runsA
 rw [List.size_toArray, flat_length (fun r : Rn => r.arr.toList) 26 arr_len]
theorem runs_set {l : List Rn} {k : Nat} (hk : k < l.length) (r : Rn) : subSet (runsA l) (k * 26) r.arr = runsA (l.set k r) :=
 flat_subSet (fun r : Rn => r.arr) 26 (fun _ => rfl) l k r hk
theorem runs_cell {w : World} {g : Nat} {l : List Rn} {k : Nat} {r : Rn} {t : TypeId} (h : w.heap[g]? = some (.cells (runsA l) t (0, 0))) (hk : l[k]? = some r) {j : Nat} {v : Value} (hv : r.arr[j]? = some v) : w.cell? ⟨g, k * 26 + j, none⟩ = some v := by
 rw [row_cell h]; exact runs_get hk hv
theorem runs_one (l : List Rn) : (runsA l).all (·.oneCell') = true := by
 rw [Array.all_eq_true_iff_forall_mem]
 intro v hv
 unfold runsA at hv
 rw [List.mem_toArray] at hv
 obtain ⟨r, _, hr⟩ := List.mem_flatMap.1 hv
 exact (Array.all_eq_true_iff_forall_mem.1 (Rn.one r)) v (by simpa using hr)
theorem info2R : (Tryz.prog.info? 44).map (·.size) = some 52 := by kernel_rfl
theorem und2R : Tryz.prog.underlying 44 = some (.array 2 43) := by kernel_rfl
/-- no call at all -/
def zRn : Rn := ⟨⟨0, 0, 0, 0, 0, 0, 0⟩, 0, 0, 0, 0, noS, 0, 0, 0, 0, noS, 0, noS, 0, false, false, false, 0, 0, noS⟩
def dRn : Rn := { zRn with done := true }
theorem alloc2R (w : World) : (Instr.alloc 44 true (.tuple #[])).run Tryz.prog w = .ok (.pointer (some ⟨w.heap.size, 0, none⟩)) (w.alloc (.cells (runsA [zRn, zRn]) 44)) := by kernel_rfl
theorem wpList_alloc_to {P : Program} {ops : Array Oper} {rest : List Oper} {o : Oper} {a : Act} {w : World} {Q : Exit → Act → World → Prop} (hg : o.guard = none) (t : TypeId) (ho : o.op = .alloc t) (cs : Array Value)
  (hr : (Instr.alloc t true (.tuple #[])).run P w = .ok (.pointer (some ⟨w.heap.size, 0, none⟩)) (w.alloc (.cells cs t))) (h : wpList P ops Q rest (a.put o.dst (.pointer (some ⟨w.heap.size, 0, none⟩))) (w.alloc (.cells cs t))) : wpList P ops Q (o :: rest) a w :=
 wpList_plain hg fun K hK => by
  unfold Oper.wp execOp
  simp only [ho, hr, Sem.run_bind, Sem.run_pure, Result.andThen_ok]
  exact hK _ _ h
theorem mask1 (x : Int) : bits .and .i64 x 1 = x % 2 := i64_mask 1 x 1 (by omega) rfl
theorem bit_ex (E : Int) : ∃ kn : Nat, kn < 2 ∧ Value.int .i64 (bits .and .i64 E 1) = .int .i64 kn := by
 rw [mask1]
 exact ⟨(E % 2).toNat, by omega, by rw [Int.toNat_of_nonneg (by omega)]⟩
theorem mask6 (x : Int) : bits .and .i64 x 63 = x % 64 := i64_mask 6 x 63 (by omega) rfl
theorem step_store_sub {P : Program} {ops : Array Oper} {o : Oper} {a : Act} {w : World} {K : Act → World → Prop} {Q : Exit → Act → World → Prop} {E : Prop} (dd : Option Tmp) (hdd : o.dst = dd) (hgd : o.guard = none) (ty : TypeId) (x y : Operand) (ho : o.op = .store ty x y)
  (g off : Nat) (cells : Array Value) (hx : a.eval x = .pointer (some ⟨g, off, none⟩)) (hy : a.eval y = .agg cells)
  (t : TypeId) (old : Array Value) (hg : w.heap[g]? = some (.cells old t (0, 0))) (hi : (P.info? ty).map (·.size) = some cells.size)
  (hold : off + cells.size ≤ old.size) (h1 : cells.all (·.oneCell') = true)
  (h : K (a.put dd undef) (w.setRow g (subSet old off cells))) : if Region.wanted o (yielded ops a.tmps) = true then Oper.wp P o a w K Q else E := by
 subst hdd
 have hw : Region.wanted o (yielded ops a.tmps) = true := by simp [Region.wanted, hgd]
 rw [if_pos hw]
 exact wp_store_sub ty x y ho g off cells hx hy t old hg hi hold h1 h

theorem built_z2 : Tryz.prog.built 44 [] = some (runsA [zRn, zRn]) := by kernel_rfl
theorem mask15 (x : Int) : bits .and .i64 x 15 = x % 16 := i64_mask 4 x 15 (by omega) rfl
/-- entries that lie in none of the blocks F -/
structure ChOk (w : World) (F : List Nat) (ch : Sl) : Prop where
 n : ch.n = 2
 c : 2 ≤ ch.c
 e : Ents w ch.a (chE16 2)
 f : ∀ z, 0 < (chE16 2).length → ch.a = some z → z.block ∉ F
section
variable {w w' : World} {F S : List Nat} {ch : Sl}
theorem ChOk.below (h : ChOk w F ch) (hb : Below w.heap.size w w') : ChOk w' F ch := { h with e := Ents.below h.e hb }
theorem ChOk.kept (h : ChOk w F ch) (k : Keep S w w') (hs : ∀ i ∈ S, i ∈ F) : ChOk w' F ch := { h with e := ents_kept h.e k (fun z h0 hz hm => h.f z h0 hz (hs _ hm)) }
end
/-- the first k of two stores, each some steps on -/
def AllS (i : Nat) (b : Int) (vx px : Nat → Nat) (k : Nat) (w : World) (F : List Nat) (l : List Rn) : Prop :=
 l.length = 2 ∧ ∀ x, x < k → ∃ ch, ChOk w F ch ∧ l[x]? = some (stR i (vx x) b ch (px x))
section
variable {i : Nat} {b : Int} {vx px : Nat → Nat} {k : Nat} {w w' : World} {F S : List Nat} {l : List Rn}
theorem AllS.below (h : AllS i b vx px k w F l) (hb : Below w.heap.size w w') : AllS i b vx px k w' F l := ⟨h.1, fun x hx => (h.2 x hx).imp fun _ q => ⟨q.1.below hb, q.2⟩⟩
theorem AllS.kept (h : AllS i b vx px k w F l) (kp : Keep S w w') (hs : ∀ i ∈ S, i ∈ F) : AllS i b vx px k w' F l := ⟨h.1, fun x hx => (h.2 x hx).imp fun _ q => ⟨q.1.kept kp hs, q.2⟩⟩
def updN (px : Nat → Nat) (k n : Nat) : Nat → Nat := fun x => if x = k then n else px x
theorem AllS.next (h : AllS i b vx px k w F l) (hk : k < 2) {ch : Sl} (hc : ChOk w F ch) (hp : px k = 0) : AllS i b vx px (k + 1) w F (l.set k (stR i (vx k) b ch 0)) := by
 refine ⟨by simpa using h.1, fun x hx => ?_⟩
 by_cases e : k = x
 ·subst e
  exact ⟨ch, hc, by rw [List.getElem?_set, if_pos rfl, if_pos (by rw [h.1]; exact hk), hp]⟩
 ·obtain ⟨c2, h1, h2⟩ := h.2 x (by omega)
  exact ⟨c2, h1, by rw [List.getElem?_set, if_neg e]; exact h2⟩
theorem AllS.step (h : AllS i b vx px 2 w F l) {k : Nat} (hk : k < 2) {ch : Sl} (hc : ChOk w F ch) {n : Nat} : AllS i b vx (updN px k n) 2 w F (l.set k (stR i (vx k) b ch n)) := by
 refine ⟨by simpa using h.1, fun x hx => ?_⟩
 unfold updN
 by_cases e : k = x
 ·subst e
  exact ⟨ch, hc, by rw [List.getElem?_set, if_pos rfl, if_pos (by rw [h.1]; exact hk), if_pos rfl]⟩
 ·obtain ⟨c2, h1, h2⟩ := h.2 x hx
  exact ⟨c2, h1, by rw [List.getElem?_set, if_neg e, if_neg (fun q => e q.symm)]; exact h2⟩
end
/-- two stores among each other: behind n turns x is px x steps on; the last one who stepped was s -/
structure StL (i b : Nat) (vx : Nat → Nat) (ws : List Int) (n : Nat) (px : Nat → Nat) (s : Nat) : Prop where
 lw : Lw c16 ws
 le : ∀ x, x < 2 → px x ≤ 5
 pr : ∀ x, x < 2 → px x = 5 ∨ (n : Int) - 16 ≤ 2 * (px x : Int) + x
 s2 : s < 2
 last : px 0 = 5 → px 1 = 5 → ws[stK i b]? = some (hC (vx s))
section
variable {i b : Nat} {vx px : Nat → Nat} {ws : List Int} {n s k : Nat} {ch : Sl}
theorem StL.skip (S : StL i b vx ws n px s) (hk : k < 2) (hn : 16 ≤ n → n % 2 = k) (h5 : px k = 5) : StL i b vx ws (n + 1) px s := by
 refine { S with pr := fun x hx => ?_ }
 by_cases e : x = k
 ·subst e; exact .inl h5
 ·rcases S.pr x hx with h | h
  ·exact .inl h
  ·refine .inr ?_
   by_cases h16 : 16 ≤ n
   ·have := hn h16; omega
   ·omega
theorem StL.step (S : StL i b vx ws n px s) (hi : i < 9) (hv : ∀ x, x < 2 → vx x < 9) (hb : b < 2) (hk : k < 2) (hn : 16 ≤ n → n % 2 = k) (h5 : px k < 5) : StL i b vx (slW ws (stR i (vx k) (b : Int) ch (px k))) (n + 1) (updN px k (px k + 1)) k := by
 have hw := st_words (ws := ws) (ch := ch) hi (hv k hk) hb h5
 refine ⟨slW_lw S.lw (st_in hi (hv k hk) hb h5), fun x hx => ?_, fun x hx => ?_, hk, fun h0 h1 => ?_⟩
 ·unfold updN
  split
  ·omega
  ·exact S.le x hx
 ·unfold updN
  by_cases e : x = k
  ·rw [if_pos e]
   have h := S.pr k hk
   by_cases h16 : 16 ≤ n
   ·have := hn h16; omega
   ·omega
  ·rw [if_neg e]
   rcases S.pr x hx with h | h
   ·exact .inl h
   ·refine .inr ?_
    by_cases h16 : 16 ≤ n
    ·have := hn h16; omega
    ·omega
 ·have h4 : px k = 4 := by
   have h : updN px k (px k + 1) k = 5 := by
    obtain rfl | rfl : k = 0 ∨ k = 1 := by omega
    ·exact h0
    ·exact h1
   unfold updN at h
   rw [if_pos rfl] at h
   omega
  rw [hw, if_pos h4, List.getElem?_set, if_pos rfl, if_pos (by have := S.lw.len; have := cell_lt (st_cell hi hb); omega)]
theorem StL.end_ (S : StL i b vx ws 32 px s) : px 0 = 5 ∧ px 1 = 5 := by
 have h0 := S.pr 0 (by decide)
 have h1 := S.pr 1 (by decide)
 have l0 := S.le 0 (by decide)
 have l1 := S.le 1 (by decide)
 omega
end
end Go.Proofs.YtnimaajnlkbdaaaGreat
