/- Layer 18: the walks of ctl.Leave, ctl.Open, ctl.Hold (layer 3's), and of begin.Tell where something was said. -/
import Derived.Test.YtbijaloeilnjoaaGreatMD
import Derived.Test.YtbijaloeilnjoaaGreatLvC
import Derived.Test.YtbijaloeilnjoaaGreatAll
namespace Go.Proofs.YtbijaloeilnjoaaGreat
open Go.RowKit
set_option linter.unusedVariables false
set_option linter.unusedSimpArgs false

set_option maxHeartbeats 400000 in
theorem of_any (s n p e st : Int) (w : World) :
  Calls Tryz.prog 147 #[.agg #[.int .i64 s, .int .i64 n, .int .i64 p, .int .i64 e], .int .i64 st] w fun r w' => r = .returned (.int .i64 (ofState ⟨s, n, p, e⟩ st)) ∧ Below w.heap.size w w' := by
 have R := row_new w #[.int .i64 s, .int .i64 n, .int .i64 p, .int .i64 e] 61
 have HR := Lib.hid R
 clear R
 by_cases hr : Right ⟨s, n, p, e⟩
 ·by_cases hs : s = st
  ·subst hs
   rw [show ofState ⟨s, n, p, e⟩ s = 0 by simp [ofState, hr]]
   have Hr := Lib.hid (rightB_t hr)
   clear hr
   go_enter Tryz.func147, Tryz.ntmps147
   go_wp2_with (go_at_call 105; refine (right_any _ _ _ _ _).mono ?_; rintro r w1 ⟨rfl, hb⟩; rw [Hr.out]; have R := row_below HR.out hb; obtain ⟨q0, q1, q2, q3, _, _, _, _⟩ := box4 R; clear R)
   go_ret
   exact ⟨rfl, below_only (by go_grown) hb⟩
  ·rw [show ofState ⟨s, n, p, e⟩ st = 11 by simp [ofState, hr, hs]]
   have hs' : (s != st) = true := by simpa using hs
   have Hr := Lib.hid (rightB_t hr)
   clear hr hs
   go_enter Tryz.func147, Tryz.ntmps147
   go_wp2_with (go_at_call 105; refine (right_any _ _ _ _ _).mono ?_; rintro r w1 ⟨rfl, hb⟩; rw [Hr.out]; have R := row_below HR.out hb; obtain ⟨q0, q1, q2, q3, _, _, _, _⟩ := box4 R; clear R)
   go_ret
   exact ⟨rfl, below_only (by go_grown) hb⟩
 ·rw [show ofState ⟨s, n, p, e⟩ st = 1 by simp [ofState, hr]]
  have Hr := Lib.hid (rightB_f hr)
  clear hr
  go_enter Tryz.func147, Tryz.ntmps147
  go_wp2_with (go_at_call 105; refine (right_any _ _ _ _ _).mono ?_; rintro r w1 ⟨rfl, hb⟩; rw [Hr.out]; have R := row_below HR.out hb; obtain ⟨q0, q1, q2, q3, _, _, _, _⟩ := box4 R; clear R)
  go_ret
  exact ⟨rfl, below_only (by go_grown) hb⟩

set_option maxHeartbeats 1000000 in
theorem leave_any (s n p e : Int) (w : World) :
  Calls Tryz.prog 124 #[.agg #[.int .i64 s, .int .i64 n, .int .i64 p, .int .i64 e]] w fun r w' => r = .returned (.tuple #[(leave ⟨s, n, p, e⟩).1.val, .int .i64 (leave ⟨s, n, p, e⟩).2]) ∧ Below w.heap.size w w' := by
 have HR := Lib.hid (show ((w.alloc (.cells #[.int .i64 s, .int .i64 n, .int .i64 p, .int .i64 e] 61)).alloc (.cells #[.int .i64 0, .int .i64 0, .int .i64 0, .int .i64 0] 61)).heap[w.heap.size]? = some (.cells #[.int .i64 s, .int .i64 n, .int .i64 p, .int .i64 e] 61) from row_alloc (row_new w _ _))
 have HR2 := Lib.hid (show ((w.alloc (.cells #[.int .i64 s, .int .i64 n, .int .i64 p, .int .i64 e] 61)).alloc (.cells #[.int .i64 0, .int .i64 0, .int .i64 0, .int .i64 0] 61)).heap[w.heap.size + 1]? = some (.cells #[.int .i64 0, .int .i64 0, .int .i64 0, .int .i64 0] 61) from heap_at (by simp))
 have B0 : Below w.heap.size w ((w.alloc (.cells #[.int .i64 s, .int .i64 n, .int .i64 p, .int .i64 e] 61)).alloc (.cells #[.int .i64 0, .int .i64 0, .int .i64 0, .int .i64 0] 61)) := by go_grown
 by_cases hz : ofState ⟨s, n, p, e⟩ 2 = 0
 ·have Ho := Lib.hid hz
  have hs : s = 2 ∧ Right ⟨s, n, p, e⟩ := by
   unfold ofState at hz
   by_cases hr : Right ⟨s, n, p, e⟩
   ·rw [if_neg (fun h => h hr)] at hz
    by_cases h2 : s = 2
    ·exact ⟨h2, hr⟩
    ·rw [if_pos h2] at hz; cases hz
   ·rw [if_pos hr] at hz; cases hz
  obtain ⟨h2, hr⟩ := hs
  obtain ⟨_, _, h10, h11, _, _, _, _⟩ := right_bd hr
  simp only at h10 h11
  rw [show leave ⟨s, n, p, e⟩ = (⟨if n = 1 then 3 else s, n - 1, p, e⟩, 0) by simp only [leave]; rw [if_neg (fun h => h hz)]]
  clear hz hr h2
  by_cases hn : n = 1
  ·subst hn
   rw [show (if (1 : Int) = 1 then (3 : Int) else s) = 3 from rfl]
   go_enter Tryz.func124, Tryz.ntmps124
   go_wp2_with (go_at_call 147; refine (of_any _ _ _ _ _ _).mono ?_; rintro r w1 ⟨rfl, hb⟩; rw [Ho.out]; have B1 := below_only B0 hb; have R := row_below HR.out hb; have R2 := row_below HR2.out hb; obtain ⟨q0, q1, q2, q3, g0, g1, g2, g3⟩ := box4 R; obtain ⟨r0, r1, r2, r3, f0, f1, f2, f3⟩ := box4 R2; clear R R2)
   refine bodyPost_ret (by simp [results, Tryz.results124, go_sem, r0, r1, r2, r3]; rfl) rfl ?_
   exact ⟨rfl, by go_grown⟩
  ·rw [show (if n = 1 then (3 : Int) else s) = s by simp [hn]]
   have hn' : (n - 1 == 0) = false := by simp; omega
   clear hn
   go_enter Tryz.func124, Tryz.ntmps124
   go_wp2_with (go_at_call 147; refine (of_any _ _ _ _ _ _).mono ?_; rintro r w1 ⟨rfl, hb⟩; rw [Ho.out]; have B1 := below_only B0 hb; have R := row_below HR.out hb; have R2 := row_below HR2.out hb; obtain ⟨q0, q1, q2, q3, g0, g1, g2, g3⟩ := box4 R; obtain ⟨r0, r1, r2, r3, f0, f1, f2, f3⟩ := box4 R2; clear R R2)
   refine bodyPost_ret (by simp [results, Tryz.results124, go_sem, r0, r1, r2, r3]; rfl) rfl ?_
   exact ⟨rfl, by go_grown⟩
 ·have Ho := Lib.hid (rfl : ofState ⟨s, n, p, e⟩ 2 = ofState ⟨s, n, p, e⟩ 2)
  rw [show leave ⟨s, n, p, e⟩ = (noCtl, ofState ⟨s, n, p, e⟩ 2) by simp only [leave]; rw [if_pos hz]]
  have hz' : (ofState ⟨s, n, p, e⟩ 2 != 0) = true := by simpa using hz
  clear hz
  generalize hZ : ofState ⟨s, n, p, e⟩ 2 = z at hz' ⊢
  clear Ho
  have Ho := Lib.hid hZ
  clear hZ
  go_enter Tryz.func124, Tryz.ntmps124
  go_wp2_with (go_at_call 147; refine (of_any _ _ _ _ _ _).mono ?_; rintro r w1 ⟨rfl, hb⟩; rw [Ho.out]; have B1 := below_only B0 hb; have R := row_below HR.out hb; have R2 := row_below HR2.out hb; obtain ⟨q0, q1, q2, q3, g0, g1, g2, g3⟩ := box4 R; obtain ⟨r0, r1, r2, r3, f0, f1, f2, f3⟩ := box4 R2; clear R R2)
  refine bodyPost_ret (by simp [results, Tryz.results124, go_sem, r0, r1, r2, r3]; rfl) rfl ?_
  exact ⟨rfl, by go_grown⟩

set_option maxHeartbeats 1000000 in
theorem open_any (s n p e : Int) (w : World) :
  Calls Tryz.prog 139 #[.agg #[.int .i64 s, .int .i64 n, .int .i64 p, .int .i64 e]] w fun r w' => r = .returned (.tuple #[(openC ⟨s, n, p, e⟩).1.val, .int .i64 (openC ⟨s, n, p, e⟩).2]) ∧ Below w.heap.size w w' := by
 have HR := Lib.hid (show ((w.alloc (.cells #[.int .i64 s, .int .i64 n, .int .i64 p, .int .i64 e] 61)).alloc (.cells #[.int .i64 0, .int .i64 0, .int .i64 0, .int .i64 0] 61)).heap[w.heap.size]? = some (.cells #[.int .i64 s, .int .i64 n, .int .i64 p, .int .i64 e] 61) from row_alloc (row_new w _ _))
 have HR2 := Lib.hid (show ((w.alloc (.cells #[.int .i64 s, .int .i64 n, .int .i64 p, .int .i64 e] 61)).alloc (.cells #[.int .i64 0, .int .i64 0, .int .i64 0, .int .i64 0] 61)).heap[w.heap.size + 1]? = some (.cells #[.int .i64 0, .int .i64 0, .int .i64 0, .int .i64 0] 61) from heap_at (by simp))
 have B0 : Below w.heap.size w ((w.alloc (.cells #[.int .i64 s, .int .i64 n, .int .i64 p, .int .i64 e] 61)).alloc (.cells #[.int .i64 0, .int .i64 0, .int .i64 0, .int .i64 0] 61)) := by go_grown
 by_cases hz : ofState ⟨s, n, p, e⟩ 3 = 0
 ·have Ho := Lib.hid hz
  have hr : Right ⟨s, n, p, e⟩ := by
   unfold ofState at hz
   by_cases hr : Right ⟨s, n, p, e⟩
   ·exact hr
   ·rw [if_pos hr] at hz; cases hz
  obtain ⟨_, _, _, _, _, _, h30, h31⟩ := right_bd hr
  simp only at h30 h31
  rw [show openC ⟨s, n, p, e⟩ = (⟨1, 0, -1, (e + 1) % 16777216⟩, 0) by simp only [openC]; rw [if_neg (fun h => h hz)]]
  clear hz hr
  rw [← mask24]
  go_enter Tryz.func139, Tryz.ntmps139
  go_wp2_with (go_at_call 147; refine (of_any _ _ _ _ _ _).mono ?_; rintro r w1 ⟨rfl, hb⟩; rw [Ho.out]; have B1 := below_only B0 hb; have R := row_below HR.out hb; have R2 := row_below HR2.out hb; obtain ⟨q0, q1, q2, q3, g0, g1, g2, g3⟩ := box4 R; obtain ⟨r0, r1, r2, r3, f0, f1, f2, f3⟩ := box4 R2; clear R R2)
  refine bodyPost_ret (by simp [results, Tryz.results139, go_sem, r0, r1, r2, r3]; rfl) rfl ?_
  exact ⟨rfl, by go_grown⟩
 ·have Ho := Lib.hid (rfl : ofState ⟨s, n, p, e⟩ 3 = ofState ⟨s, n, p, e⟩ 3)
  rw [show openC ⟨s, n, p, e⟩ = (noCtl, ofState ⟨s, n, p, e⟩ 3) by simp only [openC]; rw [if_pos hz]]
  have hz' : (ofState ⟨s, n, p, e⟩ 3 != 0) = true := by simpa using hz
  clear hz
  generalize hZ : ofState ⟨s, n, p, e⟩ 3 = z at hz' ⊢
  clear Ho
  have Ho := Lib.hid hZ
  clear hZ
  go_enter Tryz.func139, Tryz.ntmps139
  go_wp2_with (go_at_call 147; refine (of_any _ _ _ _ _ _).mono ?_; rintro r w1 ⟨rfl, hb⟩; rw [Ho.out]; have B1 := below_only B0 hb; have R := row_below HR.out hb; have R2 := row_below HR2.out hb; obtain ⟨q0, q1, q2, q3, g0, g1, g2, g3⟩ := box4 R; obtain ⟨r0, r1, r2, r3, f0, f1, f2, f3⟩ := box4 R2; clear R R2)
  refine bodyPost_ret (by simp [results, Tryz.results139, go_sem, r0, r1, r2, r3]; rfl) rfl ?_
  exact ⟨rfl, by go_grown⟩

set_option maxHeartbeats 1000000 in
theorem hold_any (s n p e : Int) (w : World) :
  Calls Tryz.prog 136 #[.agg #[.int .i64 s, .int .i64 n, .int .i64 p, .int .i64 e]] w fun r w' => r = .returned (.tuple #[(hold ⟨s, n, p, e⟩).1.val, .int .i64 (hold ⟨s, n, p, e⟩).2]) ∧ Below w.heap.size w w' := by
 have HR := Lib.hid (show ((w.alloc (.cells #[.int .i64 s, .int .i64 n, .int .i64 p, .int .i64 e] 61)).alloc (.cells #[.int .i64 0, .int .i64 0, .int .i64 0, .int .i64 0] 61)).heap[w.heap.size]? = some (.cells #[.int .i64 s, .int .i64 n, .int .i64 p, .int .i64 e] 61) from row_alloc (row_new w _ _))
 have HR2 := Lib.hid (show ((w.alloc (.cells #[.int .i64 s, .int .i64 n, .int .i64 p, .int .i64 e] 61)).alloc (.cells #[.int .i64 0, .int .i64 0, .int .i64 0, .int .i64 0] 61)).heap[w.heap.size + 1]? = some (.cells #[.int .i64 0, .int .i64 0, .int .i64 0, .int .i64 0] 61) from heap_at (by simp))
 have B0 : Below w.heap.size w ((w.alloc (.cells #[.int .i64 s, .int .i64 n, .int .i64 p, .int .i64 e] 61)).alloc (.cells #[.int .i64 0, .int .i64 0, .int .i64 0, .int .i64 0] 61)) := by go_grown
 by_cases hz : ofState ⟨s, n, p, e⟩ 3 = 0
 ·have Ho := Lib.hid hz
  have hr : Right ⟨s, n, p, e⟩ := by
   unfold ofState at hz
   by_cases hr : Right ⟨s, n, p, e⟩
   ·exact hr
   ·rw [if_pos hr] at hz; cases hz
  obtain ⟨_, _, _, _, _, _, h30, h31⟩ := right_bd hr
  simp only at h30 h31
  rw [show hold ⟨s, n, p, e⟩ = (⟨2, 1, p, e⟩, 0) by simp only [hold]; rw [if_neg (fun h => h hz)]]
  clear hz hr
  go_enter Tryz.func136, Tryz.ntmps136
  go_wp2_with (go_at_call 147; refine (of_any _ _ _ _ _ _).mono ?_; rintro r w1 ⟨rfl, hb⟩; rw [Ho.out]; have B1 := below_only B0 hb; have R := row_below HR.out hb; have R2 := row_below HR2.out hb; obtain ⟨q0, q1, q2, q3, g0, g1, g2, g3⟩ := box4 R; obtain ⟨r0, r1, r2, r3, f0, f1, f2, f3⟩ := box4 R2; clear R R2)
  refine bodyPost_ret (by simp [results, Tryz.results136, go_sem, r0, r1, r2, r3]; rfl) rfl ?_
  exact ⟨rfl, by go_grown⟩
 ·have Ho := Lib.hid (rfl : ofState ⟨s, n, p, e⟩ 3 = ofState ⟨s, n, p, e⟩ 3)
  rw [show hold ⟨s, n, p, e⟩ = (noCtl, ofState ⟨s, n, p, e⟩ 3) by simp only [hold]; rw [if_pos hz]]
  have hz' : (ofState ⟨s, n, p, e⟩ 3 != 0) = true := by simpa using hz
  clear hz
  generalize hZ : ofState ⟨s, n, p, e⟩ 3 = z at hz' ⊢
  clear Ho
  have Ho := Lib.hid hZ
  clear hZ
  go_enter Tryz.func136, Tryz.ntmps136
  go_wp2_with (go_at_call 147; refine (of_any _ _ _ _ _ _).mono ?_; rintro r w1 ⟨rfl, hb⟩; rw [Ho.out]; have B1 := below_only B0 hb; have R := row_below HR.out hb; have R2 := row_below HR2.out hb; obtain ⟨q0, q1, q2, q3, g0, g1, g2, g3⟩ := box4 R; obtain ⟨r0, r1, r2, r3, f0, f1, f2, f3⟩ := box4 R2; clear R R2)
  refine bodyPost_ret (by simp [results, Tryz.results136, go_sem, r0, r1, r2, r3]; rfl) rfl ?_
  exact ⟨rfl, by go_grown⟩


theorem leaveC_any {c c' : Ctl} (H : leave c = (c', 0)) (w : World) : Calls Tryz.prog 124 #[.agg #[.int .i64 c.st, .int .i64 c.n, .int .i64 c.p, .int .i64 c.ep]] w fun r w' => r = .returned (.tuple #[.agg #[.int .i64 c'.st, .int .i64 c'.n, .int .i64 c'.p, .int .i64 c'.ep], .int .i64 0]) ∧ Below w.heap.size w w' := by
 have h := leave_any c.st c.n c.p c.ep w
 rw [show (⟨c.st, c.n, c.p, c.ep⟩ : Ctl) = c from rfl, H] at h
 exact h
theorem openC_any {c c' : Ctl} (H : openC c = (c', 0)) (w : World) : Calls Tryz.prog 139 #[.agg #[.int .i64 c.st, .int .i64 c.n, .int .i64 c.p, .int .i64 c.ep]] w fun r w' => r = .returned (.tuple #[.agg #[.int .i64 c'.st, .int .i64 c'.n, .int .i64 c'.p, .int .i64 c'.ep], .int .i64 0]) ∧ Below w.heap.size w w' := by
 have h := open_any c.st c.n c.p c.ep w
 rw [show (⟨c.st, c.n, c.p, c.ep⟩ : Ctl) = c from rfl, H] at h
 exact h
theorem holdC_any {c c' : Ctl} (H : hold c = (c', 0)) (w : World) : Calls Tryz.prog 136 #[.agg #[.int .i64 c.st, .int .i64 c.n, .int .i64 c.p, .int .i64 c.ep]] w fun r w' => r = .returned (.tuple #[.agg #[.int .i64 c'.st, .int .i64 c'.n, .int .i64 c'.p, .int .i64 c'.ep], .int .i64 0]) ∧ Below w.heap.size w w' := by
 have h := hold_any c.st c.n c.p c.ep w
 rw [show (⟨c.st, c.n, c.p, c.ep⟩ : Ctl) = c from rfl, H] at h
 exact h
theorem unpackC_any {c : Ctl} (H : Right c) (w : World) : Calls Tryz.prog 57 #[.int .u64 (word c)] w fun r w' => r = .returned (.tuple #[.agg #[.int .i64 c.st, .int .i64 c.n, .int .i64 c.p, .int .i64 c.ep], .int .i64 0]) ∧ Below w.heap.size w w' := by
 have h := unpack_any (word c) w (by have := word_bd H; omega) (by have := word_bd H; omega)
 rw [unpack_word H] at h
 exact h
theorem packC_any {c : Ctl} (H : Right c) (w : World) : Calls Tryz.prog 106 #[.agg #[.int .i64 c.st, .int .i64 c.n, .int .i64 c.p, .int .i64 c.ep]] w fun r w' => r = .returned (.tuple #[.int .u64 (word c), .int .i64 0]) ∧ Below w.heap.size w w' := by
 have h := pack_any c.st c.n c.p c.ep w
 rw [show (⟨c.st, c.n, c.p, c.ep⟩ : Ctl) = c from rfl, pack_right H] at h
 exact h
set_option maxRecDepth 100000 in
set_option maxHeartbeats 2000000 in
theorem tellG_any (r : Rn) (code n : Int) (S : List Int) (w : World) (hn : r.said.n = S.length) (hl : S.length ≤ 1024) (hs : Cells w r.said.a (S.flatMap nCells)) :
  Calls Tryz.prog 77 #[r.v, .int .i64 code, .int .i64 n] w fun e w' => ∃ sa : Sl, e = .returned (toldR r code n sa).v ∧ sa.n = S.length ∧ Cells w' sa.a (S.flatMap nCells) ∧ (∀ a, sa.a = some a → w.heap.size ≤ a.block) ∧ Below w.heap.size w w' := by
 have HSd := Lib.hid hs
 obtain ⟨sA, sN, sC, hse⟩ : ∃ a b c, r.said = ⟨a, b, c⟩ := ⟨_, _, _, rfl⟩
 have hsN : sN = S.length := by rw [hse] at hn; exact hn
 subst hsN
 rw [hse] at HSd
 obtain ⟨cs, Hcs⟩ : ∃ cs, Hid (r.arr = cs) := ⟨_, Lib.hid rfl⟩
 have h18 : cs[18]? = some (.slice sA S.length sC) := by rw [← Hcs.out]; show some r.said.v = _; rw [hse]
 have h21 : cs[21]? = some (.bool r.done) := by rw [← Hcs.out]; rfl
 have h22 : cs[22]? = some (.bool r.point) := by rw [← Hcs.out]; rfl
 have Hsz := Lib.hid (show cs.size = 26 by rw [← Hcs.out]; rfl)
 have H23 := Lib.hid (show cs[23]? = some (.int .i64 r.code) by rw [← Hcs.out]; rfl)
 have H24 := Lib.hid (show cs[24]? = some (.int .i64 r.an) by rw [← Hcs.out]; rfl)
 have H25 := Lib.hid (show cs[25]? = some r.asaid.v by rw [← Hcs.out]; rfl)
 have Hfin : Hid (∀ sa : Sl, ((((cs.setIfInBounds 21 (.bool true)).setIfInBounds 22 (.bool true)).setIfInBounds 23 (.int .i64 code)).setIfInBounds 24 (.int .i64 n)).setIfInBounds 25 sa.v = (toldR r code n sa).arr) := Lib.hid (fun sa => by rw [← Hcs.out]; rfl)
 show Calls _ _ #[.agg r.arr, _, _] _ _
 rw [Hcs.out]
 clear hn hs hse
 go_enter Tryz.func77, Tryz.ntmps77
 go_upto_region 2 with fail
 refine two_rows w _ _ _ _ ?_
 intro W hR0 hR1 hB
 have HR0 := Lib.hid hR0
 have HR1 := Lib.hid hR1
 have HB := Lib.hid hB
 have h9 : W.cell? ⟨w.heap.size, 18, none⟩ = some (.slice sA S.length sC) := by rw [row_cell hR0, Array.getElem?_setIfInBounds_ne (by decide), Array.getElem?_setIfInBounds_ne (by decide)]; exact h18
 have z1 := lt_of_heap hR0
 have zW : Hid (w.heap.size + 1 < W.heap.size) := Lib.hid (lt_of_heap hR1)
 clear hR0 hR1 hB h18 h21 h22
 go_wp2_with fail
 refine (cloneN_any sA sC S _ (by omega) (Cells.below HSd.out HB.out)).mono ?_
 rintro e w1 ⟨v, rfl, A2, c2, rfl, hc2, hcs2, hfar, hb⟩
 replace HR0 := Lib.hid (row_below HR0.out hb)
 replace HR1 := Lib.hid (row_below HR1.out hb)
 have HF : Hid (∀ a, A2 = some a → W.heap.size ≤ a.block) := Lib.hid hfar
 have HC2 := Lib.hid hcs2
 have HWs := Lib.hid HB.out.size
 replace HB := Lib.hid (below_only HB.out hb)
 clear h9 z1 hb hfar hcs2 hc2
 have z0 := lt_of_heap HR0.out
 have g23 : w1.cell? ⟨w.heap.size, 23, none⟩ = some (.int .i64 r.code) := by rw [row_cell HR0.out, Array.getElem?_setIfInBounds_ne (by decide), Array.getElem?_setIfInBounds_ne (by decide)]; exact H23.out
 have g24 : w1.cell? ⟨w.heap.size, 24, none⟩ = some (.int .i64 r.an) := by rw [row_cell HR0.out, Array.getElem?_setIfInBounds_ne (by decide), Array.getElem?_setIfInBounds_ne (by decide)]; exact H24.out
 have g25 : w1.cell? ⟨w.heap.size, 25, none⟩ = some r.asaid.v := by rw [row_cell HR0.out, Array.getElem?_setIfInBounds_ne (by decide), Array.getElem?_setIfInBounds_ne (by decide)]; exact H25.out
 have f23 := row_frozen HR0.out 23
 have f24 := row_frozen HR0.out 24
 have f25 := row_frozen HR0.out 25
 go_upto_region 3 with fail
 clear g23 g24 g25 f23 f24 f25 z0
 refine set_threeR w1 w.heap.size 23 24 25 _ _ _ _ _ HR0.out ?_
 intro w3 hr hk
 have hr3 := Hfin.out ⟨A2, S.length, c2⟩
 rw [show Value.slice A2 S.length c2 = (⟨A2, S.length, c2⟩ : Sl).v from rfl, hr3] at hr
 replace HR0 := Lib.hid hr
 replace HR1 := Lib.hid (hk.row HR1.out (by simp))
 have HC3 : Hid (Cells w3 A2 (S.flatMap nCells)) := Lib.hid (Cells.kept HC2.out hk (fun a ha => by have h1 := HF.out a ha; have h2 := zW.out; simp; omega))
 have HB3 := Lib.hid (Keep.under HB.out hk (by have := HB.out.size; omega) (fun j hj => by simp at hj; omega))
 clear hr hk hr3
 have z1 := lt_of_heap HR1.out
 go_wp2_with (first | refine wpList_load_row rfl 43 (.tmp 3) rfl w.heap.size rfl 43 (toldR r code n ⟨A2, S.length, c2⟩).arr (0, 0) _ HR0.out undRun rfl infoRun ?_ | refine wpList_store_row rfl 43 (.tmp 6) (.tmp 16) rfl (w.heap.size + 1) (toldR r code n ⟨A2, S.length, c2⟩).arr rfl rfl 43 _ HR1.out infoRun rfl (Rn.one _) ?_)
 refine bodyPost_ret (results_cell_row (fn := Tryz.f77) rfl _ _ (w.heap.size + 1) 43 (toldR r code n ⟨A2, S.length, c2⟩).arr (0, 0) _ rfl (setRow_heap w3 (w.heap.size + 1) _ _ 43 (0, 0) HR1.out) undRun rfl infoRun) rfl ?_
 exact ⟨⟨A2, S.length, c2⟩, rfl, rfl, cells_setRow HC3.out (fun a ha => by have h1 := HF.out a ha; have h2 := zW.out; omega) _, fun a ha => by have h1 := HF.out a ha; have h2 := zW.out; omega, below_setRow HB3.out (by omega) _⟩
end Go.Proofs.YtbijaloeilnjoaaGreat
