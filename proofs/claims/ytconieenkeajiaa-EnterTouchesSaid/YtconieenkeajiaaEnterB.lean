/- A micro-step of an entry: the walk of enter.Step. -/
import Derived.Test.YtconieenkeajiaaEnterA
namespace Go.Proofs.Ytconieenkeajiaa
open Go.RowKit
set_option linter.unusedVariables false
set_option linter.unusedSimpArgs false

theorem wpList_build_to {P : Program} {ops : Array Oper} {rest : List Oper} {o : Oper} {a : Act} {w : World} {Q : Exit → Act → World → Prop} (hg : o.guard = none) (t : TypeId) (parts : Array (Nat × Operand)) (ho : o.op = .build t parts) (cells : Array Value)
    (hb : P.built t (parts.map fun (i, x) => (i, a.eval x)).toList = some cells) (h : wpList P ops Q rest (a.put o.dst (.agg cells)) w) : wpList P ops Q (o :: rest) a w :=
  wpList_build hg t parts ho (by rw [hb]; rfl) (by rw [hb]; exact h)
abbrev comLit (p : Nat) (m : Int) (r : Rn) : Array Value := #[.pointer (some ⟨p, 0, none⟩), .int .i64 m, .int .u8 r.c.op, .int .u8 r.c.r, .int .u8 r.c.h, .int .u8 r.c.v, .int .i64 r.c.a, .int .i64 r.c.b, .int .i64 r.c.c, .int .i64 r.pc, .int .i64 r.area, .int .u64 r.hand, .int .u64 r.val, r.chain.v, .int .u64 r.word, .int .u64 r.next, .int .i64 r.at_, .int .i64 r.top, r.list.v, .int .i64 r.op, r.said.v, .int .i64 r.n, .bool r.held, .bool r.done, .bool r.point, .int .i64 r.code, .int .i64 r.an, r.asaid.v]
theorem com_lit (p : Nat) (m : Int) (r : Rn) : comLit p m r = comArr p m r.arr := by simp [comArr]
theorem built_com (p : Nat) (m : Int) (r : Rn) : Try.prog.built 93 [(0, .pointer (some ⟨p, 0, none⟩)), (1, .int .i64 m), (2, .agg r.arr)] = some (comLit p m r) := by kernel_rfl
theorem below_grown_new {w w' : World} {o : Obj} (h : (w.alloc o).grownBy w' (some w.heap.size)) : Below w.heap.size w w' :=
  ⟨h.os, h.tape, h.output, Nat.le_trans (by simp) h.size, fun k hk => (h.block k (by simp; omega) (by simp; omega)).trans ((MapKept.heap_alloc w o).2 k hk)⟩
theorem below_grown_on {w w1 w' : World} {g : Nat} (hb : Below w.heap.size w w1) (hg : w.heap.size ≤ g) (h : w1.grownBy w' (some g)) : Below w.heap.size w w' :=
  ⟨h.os.trans hb.os, h.tape.trans hb.tape, h.output.trans hb.output, Nat.le_trans hb.size h.size, fun k hk => (h.block k (Nat.lt_of_lt_of_le hk hb.size) (by simp; omega)).trans (hb.block k hk)⟩
/-- what a step makes of a call, and of the word -/
def stepR (c : Ctl) (r : Rn) : Rn := if r.pc = 14 then enterR (word c) r else lookR c r
def stepX (c : Ctl) (r : Rn) : Int := if r.pc = 14 ∧ word c = r.word then r.next else word c
abbrev lookF (g : Nat) : Value := .func (.func 35) #[.pointer (some ⟨g, 0, none⟩)] #[]
abbrev enterF (g : Nat) : Value := .func (.func 36) #[.pointer (some ⟨g, 0, none⟩)] #[]
abbrev doesM (g : Nat) : Array MapEntry := #[⟨.int .i64 13, lookF g, 0⟩, ⟨.int .i64 14, enterF g, 1⟩]
theorem set_same {ws : List Int} {k : Nat} {x : Int} (h : ws[k]? = some x) : ws.set k x = ws := by
  apply List.ext_getElem?
  intro j
  rw [List.getElem?_set]
  split
  · rename_i e
    subst e
    rw [if_pos (List.getElem?_eq_some_iff.1 h).1, h]
  · rfl

set_option maxRecDepth 100000 in
set_option maxHeartbeats 2000000 in
theorem step_any (p b k : Nat) (s t i h : Int) (ws : List Int) (c : Ctl) (r : Rn) (w : World) (H : PlanOk s t i h) (hA : Arn w p b ws) (hc : Right c) (hk : ws[k]? = some (word c)) (ha : (k : Int) = 8 * r.c.a) (hsc : 0 ≤ r.c.a ∧ r.c.a ≤ s - 1) (hs : r.said = noS) (hd : r.done = false) (hp : r.pc = 13 ∨ r.pc = 14) (hy : 0 ≤ r.next ∧ r.next < 18446744073709551616) :
    Calls Try.prog 17 #[.agg #[.int .i64 s, .int .i64 t, .int .i64 i, .int .i64 h], .pointer (some ⟨p, 0, none⟩), r.v] w fun e w' => e = .returned (.tuple #[(stepR c r).v, .int .i64 0]) ∧ Arn w' p b (ws.set k (stepX c r)) ∧ Keep [b] w w' := by
  have HP := fun w => Lib.hid (planAt_any s t i h 0 r.c.a w H (by decide) hsc)
  have He := Lib.hid (show 64 * r.c.a + 8 * 0 = ((k * 8 : Nat) : Int) by omega)
  have HA := Lib.hid hA
  have HK := Lib.hid hk
  have HSd := Lib.hid hs
  have HC := Lib.hid hc
  have HY := Lib.hid hy
  have Hpc := Lib.hid hp
  have Hd := Lib.hid hd
  obtain ⟨m, Hm⟩ : ∃ m, Hid (m = ((k * 8 : Nat) : Int)) := ⟨_, Lib.hid rfl⟩
  rw [← Hm.out] at He
  clear H hA hc hk ha hsc hs hy hp hd
  go_enter Try.func17, Try.ntmps17
  go_upto_region 1 with fail
  refine three_rows w _ _ _ _ _ _ ?_
  intro W hP hR hZ hB
  obtain ⟨x0, x1, x2, x3, _⟩ := box4 hP
  have q4 : W.cell? ⟨w.heap.size + 1, 4, none⟩ = some (.int .i64 r.c.a) := by rw [row_cell hR]; rfl
  have HR := Lib.hid hR
  have HZ := Lib.hid hZ
  have HB := Lib.hid hB
  clear hP hR hZ hB
  go_wp2_with fail
  refine (HP _).out.mono ?_
  rintro e' w1 ⟨rfl, hb⟩
  rw [He.out]
  replace HR := Lib.hid (row_below HR.out hb)
  replace HZ := Lib.hid (row_below HZ.out hb)
  have HB1 := Lib.hid (below_only HB.out hb)
  clear hb x0 x1 x2 x3 q4 HB
  go_upto_region 3 with (first | refine wpList_load_row rfl 40 (.tmp 5) rfl (w.heap.size + 1) rfl 40 r.arr (0, 0) _ HR.out undRun rfl infoRun ?_)
  refine one_row w1 _ _ ?_
  intro w2 hC hb
  obtain ⟨g, Hg⟩ : ∃ g, g = w1.heap.size := ⟨_, rfl⟩
  rw [← Hg] at hC ⊢
  have HCm : Hid (Com w2 g p m r) := Lib.hid (hC.trans (by rw [← com_lit]))
  replace HR := Lib.hid (row_below HR.out hb)
  replace HZ := Lib.hid (row_below HZ.out hb)
  have HB2 := Lib.hid (below_only HB1.out hb)
  have Hgw : Hid (w.heap.size ≤ g) := Lib.hid (by rw [Hg]; exact HB1.out.size)
  have Hgb : Hid (g ≠ p ∧ g ≠ b ∧ g ≠ w.heap.size + 2) := Lib.hid (by
    have h1 := lt_of_heap (HA.out.below HB1.out).box
    have h2 := lt_of_heap (HA.out.below HB1.out).row
    have h3 := HZ.out
    refine ⟨by omega, by omega, ?_⟩
    intro e
    have h4 := HCm.out
    unfold Com at h4
    rw [e] at h4
    rw [show w.heap.size + 1 + 1 = w.heap.size + 2 from rfl] at h3
    rw [h4] at h3
    simp at h3)
  clear hC hb Hg HB1
  go_upto_region 4 with (first
    | refine wpList_makeMap rfl 94 rfl ?_
    | (refine wpList_insert rfl 94 _ _ _ rfl 3 1 Try.underlying94 Try.underlying3 w2.heap.size 13 (lookF g) #[] 0 rfl rfl rfl (MapKept.heap_alloc w2 _).1 rfl ?_; intro w3 hM hG)
    | (refine wpList_insert rfl 94 _ _ _ rfl 3 1 Try.underlying94 Try.underlying3 w2.heap.size 14 (enterF g) _ 1 rfl rfl rfl hM rfl ?_; intro w4 hM2 hG2))
  have HB24 := Lib.hid (below_grown_on (below_grown_new hG) (Nat.le_refl _) hG2)
  have HM : Hid (w4.heap[w2.heap.size]? = some (.map (doesM g) 2)) := Lib.hid hM2
  clear hM hM2 hG hG2
  replace HCm : Hid (Com w4 g p m r) := Lib.hid (row_below HCm.out HB24.out)
  replace HR := Lib.hid (row_below HR.out HB24.out)
  replace HZ := Lib.hid (row_below HZ.out HB24.out)
  have HB4 := Lib.hid (below_only HB2.out HB24.out)
  obtain ⟨mb, Hmb⟩ : ∃ mb, mb = w2.heap.size := ⟨_, rfl⟩
  rw [← Hmb] at HM ⊢
  clear HB2 HB24 Hmb
  have q7 : w4.cell? ⟨w.heap.size + 1, 7, none⟩ = some (.int .i64 r.pc) := by rw [row_cell HR.out]; rfl
  have q21 : w4.cell? ⟨w.heap.size + 1, 21, none⟩ = some (.bool false) := by rw [row_cell HR.out, ← Hd.out]; rfl
  rcases Hpc.out with hp | hp
  · rw [hp] at q7
    have Hp := Lib.hid hp
    clear hp
    go_wp2_with (refine wpList_lookup_now rfl 94 _ _ rfl 3 1 Try.underlying94 Try.underlying3 mb 13 (doesM g) 2 rfl rfl HM.out 0 (lookF g) rfl ?_)
    have Hst : Hid (stepR c r = lookR c r ∧ ws.set k (stepX c r) = ws) := Lib.hid ⟨by unfold stepR; rw [if_neg (by rw [Hp.out]; decide)], by unfold stepX; rw [if_neg (by rw [Hp.out]; simp), set_same HK.out]⟩
    refine (look_any g p b k ws c r _ (by rw [← Hm.out]; exact HCm.out) (HA.out.below HB4.out) HC.out HK.out HSd.out ⟨Hgb.out.1, Hgb.out.2.1⟩).mono ?_
    rintro e' w5 ⟨rfl, hC5, hK5⟩
    rw [← Hm.out] at hC5
    have HC5 : Hid (Com w5 g p m (lookR c r)) := Lib.hid hC5
    have HA5 := Lib.hid ((HA.out.below HB4.out).kept hK5 (by simpa using fun e => Hgb.out.1 e.symm) (by simpa using fun e => Hgb.out.2.1 e.symm))
    replace HZ := Lib.hid (hK5.row HZ.out (by simpa using fun e => Hgb.out.2.2 e.symm))
    have HK5 := Lib.hid ((keep_below HB4.out [b]).then hK5 (fun i hi h => by simp at h; have := Hgw.out; omega))
    clear hC5 hK5
    clear q7 q21
    go_wp2_with (first | refine wpList_load_sub rfl 40 (.tmp 51) rfl g 2 rfl 93 (comArr p m (lookR c r).arr) (lookR c r).arr (0, 0) _ HC5.out (fun j v h => by rw [com_get]; exact h) undRun rfl infoRun ?_ | refine wpList_store_row rfl 40 (.tmp 6) (.tmp 52) rfl (w.heap.size + 1 + 1) (lookR c r).arr rfl rfl 40 ZRun HZ.out infoRun rfl (Rn.one _) ?_)
    refine bodyPost_ret (results_cell_row_tmp (fn := Try.f17) rfl _ _ (w.heap.size + 1 + 1) 40 (lookR c r).arr (0, 0) _ rfl (setRow_heap w5 _ _ _ _ (0, 0) HZ.out) undRun rfl infoRun) rfl ?_
    have hKs := (Keep.refl [w.heap.size + 1 + 1] w5).setRow (g := w.heap.size + 1 + 1) (.inl (by simp)) (lookR c r).arr
    have hlp := lt_of_heap HA.out.box
    have hlb := lt_of_heap HA.out.row
    rw [Hst.out.1, Hst.out.2]
    exact ⟨rfl, HA5.out.kept hKs (by simp; omega) (by simp; omega), HK5.out.then hKs (fun i hi h => by simp at h ⊢; omega)⟩
  · rw [hp] at q7
    have Hp := Lib.hid hp
    clear hp
    go_wp2_with (refine wpList_lookup_now rfl 94 _ _ rfl 3 1 Try.underlying94 Try.underlying3 mb 14 (doesM g) 2 rfl rfl HM.out 1 (enterF g) rfl ?_)
    have Hst : Hid (stepR c r = enterR (word c) r ∧ ws.set k (stepX c r) = (if word c = r.word then ws.set k r.next else ws)) := Lib.hid ⟨by unfold stepR; rw [if_pos Hp.out], by
      unfold stepX
      by_cases hx : word c = r.word
      · rw [if_pos ⟨Hp.out, hx⟩, if_pos hx]
      · rw [if_neg (fun h => hx h.2), if_neg hx, set_same HK.out]⟩
    refine (enterM_any g p b k ws (word c) r _ (by rw [← Hm.out]; exact HCm.out) (HA.out.below HB4.out) HK.out HSd.out ⟨Hgb.out.1, Hgb.out.2.1⟩ HY.out).mono ?_
    rintro e' w5 ⟨rfl, hC5, hA5, hK5⟩
    rw [← Hm.out] at hC5
    have HC5 : Hid (Com w5 g p m (enterR (word c) r)) := Lib.hid hC5
    have HA5 := Lib.hid hA5
    have Hbz : Hid (b ≠ w.heap.size + 1 + 1) := Lib.hid (by have := lt_of_heap HA.out.row; omega)
    replace HZ := Lib.hid (hK5.row HZ.out (by simp; exact ⟨fun e => Hgb.out.2.2 e.symm, fun e => Hbz.out e.symm⟩))
    have HK5 := Lib.hid ((keep_below HB4.out [b]).then hK5 (fun i hi h => by simp at h ⊢; have := Hgw.out; omega))
    clear hC5 hK5 hA5
    clear q7 q21
    go_wp2_with (first | refine wpList_load_sub rfl 40 (.tmp 51) rfl g 2 rfl 93 (comArr p m (enterR (word c) r).arr) (enterR (word c) r).arr (0, 0) _ HC5.out (fun j v h => by rw [com_get]; exact h) undRun rfl infoRun ?_ | refine wpList_store_row rfl 40 (.tmp 6) (.tmp 52) rfl (w.heap.size + 1 + 1) (enterR (word c) r).arr rfl rfl 40 ZRun HZ.out infoRun rfl (Rn.one _) ?_)
    refine bodyPost_ret (results_cell_row_tmp (fn := Try.f17) rfl _ _ (w.heap.size + 1 + 1) 40 (enterR (word c) r).arr (0, 0) _ rfl (setRow_heap w5 _ _ _ _ (0, 0) HZ.out) undRun rfl infoRun) rfl ?_
    have hKs := (Keep.refl [w.heap.size + 1 + 1] w5).setRow (g := w.heap.size + 1 + 1) (.inl (by simp)) (enterR (word c) r).arr
    have hlp := lt_of_heap HA.out.box
    have hlb := lt_of_heap HA.out.row
    rw [Hst.out.1, Hst.out.2]
    exact ⟨rfl, HA5.out.kept hKs (by simp; omega) (by simp; omega), HK5.out.then hKs (fun i hi h => by simp at h ⊢; omega)⟩

theorem builtZ : Try.prog.built 40 [] = some ZRun := by kernel_rfl
set_option maxRecDepth 100000 in
set_option maxHeartbeats 2000000 in
theorem stepDone_any (p b k : Nat) (s t i h : Int) (ws : List Int) (c : Ctl) (r : Rn) (w : World) (H : PlanOk s t i h) (hA : Arn w p b ws) (hc : Right c) (hk : ws[k]? = some (word c)) (ha : (k : Int) = 8 * r.c.a) (hsc : 0 ≤ r.c.a ∧ r.c.a ≤ s - 1) (hs : r.said = noS) (hd : r.done = true) (hp : r.pc = 13 ∨ r.pc = 14) (hy : 0 ≤ r.next ∧ r.next < 18446744073709551616) :
    Calls Try.prog 17 #[.agg #[.int .i64 s, .int .i64 t, .int .i64 i, .int .i64 h], .pointer (some ⟨p, 0, none⟩), r.v] w fun e w' => ∃ v, e = .returned (.tuple #[v, .int .i64 1]) ∧ Below w.heap.size w w' := by
  have HP := fun w => Lib.hid (planAt_any s t i h 0 r.c.a w H (by decide) hsc)
  have He := Lib.hid (show 64 * r.c.a + 8 * 0 = ((k * 8 : Nat) : Int) by omega)
  have HA := Lib.hid hA
  have HK := Lib.hid hk
  have HSd := Lib.hid hs
  have HC := Lib.hid hc
  have HY := Lib.hid hy
  have Hpc := Lib.hid hp
  have Hd := Lib.hid hd
  obtain ⟨m, Hm⟩ : ∃ m, Hid (m = ((k * 8 : Nat) : Int)) := ⟨_, Lib.hid rfl⟩
  rw [← Hm.out] at He
  clear H hA hc hk ha hsc hs hy hp hd
  go_enter Try.func17, Try.ntmps17
  go_upto_region 1 with fail
  refine three_rows w _ _ _ _ _ _ ?_
  intro W hP hR hZ hB
  obtain ⟨x0, x1, x2, x3, _⟩ := box4 hP
  have q4 : W.cell? ⟨w.heap.size + 1, 4, none⟩ = some (.int .i64 r.c.a) := by rw [row_cell hR]; rfl
  have HR := Lib.hid hR
  have HZ := Lib.hid hZ
  have HB := Lib.hid hB
  clear hP hR hZ hB
  go_wp2_with fail
  refine (HP _).out.mono ?_
  rintro e' w1 ⟨rfl, hb⟩
  rw [He.out]
  replace HR := Lib.hid (row_below HR.out hb)
  replace HZ := Lib.hid (row_below HZ.out hb)
  have HB1 := Lib.hid (below_only HB.out hb)
  clear hb x0 x1 x2 x3 q4 HB
  go_upto_region 3 with (first | refine wpList_load_row rfl 40 (.tmp 5) rfl (w.heap.size + 1) rfl 40 r.arr (0, 0) _ HR.out undRun rfl infoRun ?_)
  refine one_row w1 _ _ ?_
  intro w2 hC hb
  obtain ⟨g, Hg⟩ : ∃ g, g = w1.heap.size := ⟨_, rfl⟩
  rw [← Hg] at hC ⊢
  have HCm : Hid (Com w2 g p m r) := Lib.hid (hC.trans (by rw [← com_lit]))
  replace HR := Lib.hid (row_below HR.out hb)
  replace HZ := Lib.hid (row_below HZ.out hb)
  have HB2 := Lib.hid (below_only HB1.out hb)
  have Hgw : Hid (w.heap.size ≤ g) := Lib.hid (by rw [Hg]; exact HB1.out.size)
  have Hgb : Hid (g ≠ p ∧ g ≠ b ∧ g ≠ w.heap.size + 2) := Lib.hid (by
    have h1 := lt_of_heap (HA.out.below HB1.out).box
    have h2 := lt_of_heap (HA.out.below HB1.out).row
    have h3 := HZ.out
    refine ⟨by omega, by omega, ?_⟩
    intro e
    have h4 := HCm.out
    unfold Com at h4
    rw [e] at h4
    rw [show w.heap.size + 1 + 1 = w.heap.size + 2 from rfl] at h3
    rw [h4] at h3
    simp at h3)
  clear hC hb Hg HB1
  go_upto_region 4 with (first
    | refine wpList_makeMap rfl 94 rfl ?_
    | (refine wpList_insert rfl 94 _ _ _ rfl 3 1 Try.underlying94 Try.underlying3 w2.heap.size 13 (lookF g) #[] 0 rfl rfl rfl (MapKept.heap_alloc w2 _).1 rfl ?_; intro w3 hM hG)
    | (refine wpList_insert rfl 94 _ _ _ rfl 3 1 Try.underlying94 Try.underlying3 w2.heap.size 14 (enterF g) _ 1 rfl rfl rfl hM rfl ?_; intro w4 hM2 hG2))
  have HB24 := Lib.hid (below_grown_on (below_grown_new hG) (Nat.le_refl _) hG2)
  have HM : Hid (w4.heap[w2.heap.size]? = some (.map (doesM g) 2)) := Lib.hid hM2
  clear hM hM2 hG hG2
  replace HCm : Hid (Com w4 g p m r) := Lib.hid (row_below HCm.out HB24.out)
  replace HR := Lib.hid (row_below HR.out HB24.out)
  replace HZ := Lib.hid (row_below HZ.out HB24.out)
  have HB4 := Lib.hid (below_only HB2.out HB24.out)
  obtain ⟨mb, Hmb⟩ : ∃ mb, mb = w2.heap.size := ⟨_, rfl⟩
  rw [← Hmb] at HM ⊢
  clear HB2 HB24 Hmb
  have q7 : w4.cell? ⟨w.heap.size + 1, 7, none⟩ = some (.int .i64 r.pc) := by rw [row_cell HR.out]; rfl
  have q21 : w4.cell? ⟨w.heap.size + 1, 21, none⟩ = some (.bool true) := by rw [row_cell HR.out, ← Hd.out]; rfl
  rcases Hpc.out with hp | hp
  · rw [hp] at q7
    have Hp := Lib.hid hp
    clear hp
    go_wp2_with (first | (refine wpList_lookup_now rfl 94 _ _ rfl 3 1 Try.underlying94 Try.underlying3 mb 13 (doesM g) 2 rfl rfl HM.out 0 (lookF g) rfl ?_) | refine wpList_build_to rfl 40 _ rfl ZRun (by simp only [List.map_toArray, List.map_nil]; exact builtZ) ?_ | refine wpList_store_row rfl 40 (.tmp 6) (.tmp 46) rfl (w.heap.size + 1 + 1) ZRun rfl rfl 40 ZRun HZ.out infoRun rfl (by kernel_rfl) ?_)
    refine bodyPost_ret (results_cell_row_tmp (fn := Try.f17) rfl _ _ (w.heap.size + 1 + 1) 40 ZRun (0, 0) _ rfl (setRow_heap w4 _ _ _ _ (0, 0) HZ.out) undRun rfl infoRun) rfl ?_
    exact ⟨_, rfl, below_setRow HB4.out (by omega) _⟩
  · rw [hp] at q7
    have Hp := Lib.hid hp
    clear hp
    go_wp2_with (first | (refine wpList_lookup_now rfl 94 _ _ rfl 3 1 Try.underlying94 Try.underlying3 mb 14 (doesM g) 2 rfl rfl HM.out 1 (enterF g) rfl ?_) | refine wpList_build_to rfl 40 _ rfl ZRun (by simp only [List.map_toArray, List.map_nil]; exact builtZ) ?_ | refine wpList_store_row rfl 40 (.tmp 6) (.tmp 46) rfl (w.heap.size + 1 + 1) ZRun rfl rfl 40 ZRun HZ.out infoRun rfl (by kernel_rfl) ?_)
    refine bodyPost_ret (results_cell_row_tmp (fn := Try.f17) rfl _ _ (w.heap.size + 1 + 1) 40 ZRun (0, 0) _ rfl (setRow_heap w4 _ _ _ _ (0, 0) HZ.out) undRun rfl infoRun) rfl ?_
    exact ⟨_, rfl, below_setRow HB4.out (by omega) _⟩

end Go.Proofs.Ytconieenkeajiaa
