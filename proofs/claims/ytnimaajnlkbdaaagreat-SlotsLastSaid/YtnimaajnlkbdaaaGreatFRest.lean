/- Layer 14: what is refused; a call that is begun, stepped; calls that are the same. -/
import Derived.Test.YtnimaajnlkbdaaaGreatFLaw
import Derived.Test.YtnimaajnlkbdaaaGreatSame
namespace Go.Proofs.YtnimaajnlkbdaaaGreat
open Go.RowKit
set_option linter.unusedVariables false
set_option linter.unusedSimpArgs false

theorem runIn_plain {w : World} {r : Rn} {A : Option Addr} {k : Nat} {l : List Ent} (hc : r.chain = ⟨A, l.length, k⟩) (hl : l.length ≤ 1048576) (he : Ents w A l) (h1 : r.list = noS) (h2 : r.said = noS) (h3 : r.asaid = noS) : RunIn w r l [] [] [] :=
  ⟨by rw [hc], hl, by rw [hc]; exact he, by rw [h1]; rfl, by simp, Cells.nil, by rw [h2]; rfl, by simp, Cells.nil, by rw [h3]; rfl, by simp, Cells.nil⟩
theorem same_self (r : Rn) (A : Option Addr) (k : Nat) (l : List Ent) (w : World) (hc : r.chain = ⟨A, l.length, k⟩) (hl : l.length ≤ 1048576) (he : Ents w A l) (h1 : r.list = noS) (h2 : r.said = noS) (h3 : r.asaid = noS) :
    Calls Tryz.prog 16 #[r.v, r.v] w fun e w' => e = .returned (.bool true) ∧ Below w.heap.size w w' :=
  same_run r r.chain r.list r.said r.asaid l [] [] [] w (runIn_plain hc hl he h1 h2 h3) (runIn_plain hc hl he h1 h2 h3)

set_option maxRecDepth 100000 in
set_option maxHeartbeats 8000000 in
theorem planAt_no (s t i h sc : Int) (w : World) (H : PlanOk s t i h) (hs : ¬ (0 ≤ sc ∧ sc ≤ s - 1)) :
    Calls Tryz.prog 52 #[.agg #[.int .i64 s, .int .i64 t, .int .i64 i, .int .i64 h], .int .i64 0, .int .i64 sc] w fun r w' => r = .returned (.tuple #[.int .i64 0, .int .i64 2]) ∧ Below w.heap.size w w' := by
  have s0 := H.s0
  have s1 := H.s1
  have b1 : inB 0 0 4 = true := inB_t (by decide)
  have b2 : inB sc 0 (s - 1) = false := inB_f hs
  have HR := fun w => Lib.hid (planRight_yes s t i h w H)
  clear H hs
  go_enter Tryz.func52, Tryz.ntmps52
  go_upto_region 1 with fail
  refine one_row w _ _ ?_
  intro W hR hB
  obtain ⟨x0, x1, x2, x3, _⟩ := box4 hR
  have HRow := Lib.hid hR
  clear hR
  go_wp2_with fail
  refine (HR _).out.mono ?_
  rintro r w1 ⟨rfl, hb⟩
  clear x0 x1 x2 x3
  have hB1 := below_only hB hb
  have hs1 := hB1.size
  obtain ⟨x0, x1, x2, x3, _⟩ := box4 (row_below HRow.out hb)
  clear hb hB HRow
  go_wp2_with (go_at_call 32; refine (within_any _ _ _ _).mono ?_; rintro r w1 ⟨rfl, rfl⟩; first | rw [b1] | rw [b2])
  go_ret2
  exact ⟨rfl, by go_grown⟩

set_option maxRecDepth 100000 in
set_option maxHeartbeats 8000000 in
theorem foundCtl_no (p : Nat) (s t i h sc : Int) (w : World) (H : PlanOk s t i h) (hs : ¬ (0 ≤ sc ∧ sc ≤ s - 1)) :
    Calls Tryz.prog 21 #[.agg #[.int .i64 s, .int .i64 t, .int .i64 i, .int .i64 h], .pointer (some ⟨p, 0, none⟩), .int .i64 sc] w fun r w' => r = .returned (.tuple #[.agg #[.int .i64 0, .int .i64 0, .int .i64 0, .int .i64 0], .int .i64 11]) ∧ Below w.heap.size w w' := by
  have HP := fun w => Lib.hid (planAt_no s t i h sc w H hs)
  clear H hs
  go_enter Tryz.func21, Tryz.ntmps21
  go_upto_region 1 with fail
  refine two_rows' w _ _ _ _ ?_
  intro W hR hQ hB
  obtain ⟨x0, x1, x2, x3, _⟩ := box4 hR
  have HQ := Lib.hid hQ
  have HB := Lib.hid hB
  clear hR hQ hB
  go_wp2_with fail
  refine (HP _).out.mono ?_
  rintro r w1 ⟨rfl, hb⟩
  have HQ1 := Lib.hid (row_below HQ.out hb)
  have HB1 := Lib.hid (below_only HB.out hb)
  clear hb HQ HB x0 x1 x2 x3
  obtain ⟨y0, y1, y2, y3, y0f, y1f, y2f, y3f⟩ := box4 HQ1.out
  have zq := lt_of_heap HQ1.out
  have B2 := HB1.out
  have hs1 := B2.size
  go_wp2_with fail
  refine bodyPost_ret (results_cell_row_tmp (fn := Tryz.f21) rfl _ _ (w.heap.size + 1) 78 #[.int .i64 0, .int .i64 0, .int .i64 0, .int .i64 0] (0, 0) _ rfl (row_four HQ1.out) Tryz.underlying78 rfl infoCtl4) rfl ?_
  exact ⟨rfl, by go_grown⟩

set_option maxRecDepth 100000 in
set_option maxHeartbeats 8000000 in
theorem fstepNo_any (p g : Nat) (s t i h : Int) (r : Rn) (w : World) (hn : r.done = true ∨ (r.done = false ∧ r.pc = 0)) :
    Calls Tryz.prog 27 #[.agg #[.int .i64 s, .int .i64 t, .int .i64 i, .int .i64 h], .pointer (some ⟨p, 0, none⟩), .pointer (some ⟨g, 0, none⟩), r.v] w fun y w' => y = .returned (.tuple #[.agg ZRun, .int .i64 1]) ∧ Below w.heap.size w w' := by
  have Hn := Lib.hid hn
  clear hn
  go_enter Tryz.func27, Tryz.ntmps27
  go_upto_region 1 with fail
  refine three_rows w _ _ _ _ _ _ ?_
  intro W hP hR hZ hB
  have HZ := Lib.hid (show W.heap[w.heap.size + 1 + 1]? = some (.cells ZRun 43 (0, 0)) from hZ)
  have HB := Lib.hid hB
  have zR := lt_of_heap hR
  rcases Hn.out with hd | ⟨hd, hp⟩
  · have q21 : W.cell? ⟨w.heap.size + 1, 21, none⟩ = some (.bool true) := by rw [row_cell hR, ← hd]; rfl
    clear hP hR hZ hB hd Hn
    go_wp2_with (first | refine wpList_store_row rfl 43 (.tmp 8) (.tmp 25) rfl (w.heap.size + 1 + 1) ZRun rfl rfl 43 ZRun HZ.out infoRun rfl (by kernel_rfl) ?_)
    refine bodyPost_ret (results_cell_row_tmp (fn := Tryz.f27) rfl _ _ (w.heap.size + 1 + 1) 43 ZRun (0, 0) _ rfl (setRow_heap W _ _ _ _ (0, 0) HZ.out) undRun rfl infoRun) rfl ?_
    exact ⟨rfl, below_setRow HB.out (by omega) _⟩
  · have q21 : W.cell? ⟨w.heap.size + 1, 21, none⟩ = some (.bool false) := by rw [row_cell hR, ← hd]; rfl
    have q7 : W.cell? ⟨w.heap.size + 1, 7, none⟩ = some (.int .i64 0) := by rw [row_cell hR, ← hp]; rfl
    clear hP hR hZ hB hd hp Hn
    go_wp2_with (first | refine wpList_store_row rfl 43 (.tmp 8) (.tmp 25) rfl (w.heap.size + 1 + 1) ZRun rfl rfl 43 ZRun HZ.out infoRun rfl (by kernel_rfl) ?_)
    refine bodyPost_ret (results_cell_row_tmp (fn := Tryz.f27) rfl _ _ (w.heap.size + 1 + 1) 43 ZRun (0, 0) _ rfl (setRow_heap W _ _ _ _ (0, 0) HZ.out) undRun rfl infoRun) rfl ?_
    exact ⟨rfl, below_setRow HB.out (by omega) _⟩

/-- a call that is begun, stepped -/
theorem fstep14_any (B p b g : Nat) (q : Option Nat) (f e : Int) (S : Sco) (ws : List Int) (s t i h : Int) (mk : Bool) (n : Int) (ch : Sl) (w : World) (H : PlanOk s t i h) (hF : Fs B w p b g q f e S ws) (hS : (S.l.length : Int) = s) (hd : done14 mk n S = true) :
    Calls Tryz.prog 27 #[.agg #[.int .i64 s, .int .i64 t, .int .i64 i, .int .i64 h], .pointer (some ⟨p, 0, none⟩), .pointer (some ⟨g, 0, none⟩), (begR s mk n ch).v] w fun y w' => ∃ q', y = .returned (.tuple #[(run14 f e s mk n S ch).v, .int .i64 0]) ∧ Fs B w' p b g q' f e (does14 f e mk n S) (words14 mk n S ws) ∧ NewQ w q q' ∧ Keep (FsT b g q) w w' := by
  cases mk with
  | true =>
    refine (fstepC_any B p b g q f e S ws s t i h (begA true n) _ w H hF hS (begA_in n) (by rw [begR_make]) (by rw [begR_make]) (by rw [begR_make]) (by rw [begR_make]) (by rw [begR_make]; simp [begA])).mono ?_
    rintro y w' ⟨rfl, h1, h2⟩
    exact ⟨q, rfl, h1, NewQ.refl, h2⟩
  | false =>
    have hinA : inS (begA false n) 1 S = true := hd
    have hin : inB (1 + n % 8) 1 (s - 1) = true := by unfold inS begA at hinA; rw [hS] at hinA; exact hinA
    obtain ⟨k, hk, hk1⟩ := begA_nat false n
    have hk' : 1 + n % 8 = (k : Int) := by rw [← hk]; simp [begA]
    refine (fstepD_any B p b g q f e S ws s t i h k _ w H hF hS (by rw [← hk]; exact hinA) (by rw [begR_gone hin]) (by rw [begR_gone hin]) (by rw [begR_gone hin]) (by rw [begR_gone hin]) (by rw [begR_gone hin]; exact hk')).mono ?_
    rintro y w' ⟨rfl, ⟨q', h1, h1'⟩, h2⟩
    refine ⟨q', ?_, ?_, h1', h2⟩
    · unfold run14
      rw [if_neg (by simp), if_pos hinA, hk]
    · unfold does14 words14
      rw [if_neg (by simp), if_neg (by simp), if_pos hinA, hk]
      exact h1
theorem begR_pc {s : Int} {mk : Bool} {n : Int} {S : Sco} {ch : Sl} (hS : (S.l.length : Int) = s) : (begR s mk n ch).pc = (if done14 mk n S then 1 else 0) ∧ (begR s mk n ch).done = false := by
  unfold done14
  cases mk with
  | true => rw [begR_make]; exact ⟨rfl, rfl⟩
  | false =>
    cases hin : inB (1 + n % 8) 1 (s - 1) with
    | true => rw [begR_gone hin, show inS (begA false n) 1 S = true by unfold inS begA; rw [hS]; exact hin]; exact ⟨rfl, rfl⟩
    | false => rw [begR_none hin, show inS (begA false n) 1 S = false by unfold inS begA; rw [hS]; exact hin]; exact ⟨rfl, rfl⟩
theorem run14_same {f e s : Int} {mk : Bool} {n : Int} {S : Sco} {ch : Sl} (hd : done14 mk n S = true) : (run14 f e s mk n S ch).chain = ch ∧ (run14 f e s mk n S ch).list = noS ∧ (run14 f e s mk n S ch).said = noS ∧ (run14 f e s mk n S ch).asaid = noS ∧ (run14 f e s mk n S ch).done = true := by
  unfold run14
  cases mk with
  | true => exact ⟨rfl, rfl, rfl, rfl, rfl⟩
  | false =>
    have hinA : inS (begA false n) 1 S = true := hd
    rw [if_neg (by simp), if_pos hinA]
    exact ⟨rfl, rfl, rfl, rfl, rfl⟩
theorem zero_does {f e : Int} {mk : Bool} {n : Int} {S : Sco} (h : ∃ z, S.l[0]? = some z ∧ z.c.st = 2) : ∃ z, (does14 f e mk n S).l[0]? = some z ∧ z.c.st = 2 := by
  obtain ⟨z, hz, hz2⟩ := h
  refine ⟨z, ?_, hz2⟩
  unfold does14
  cases mk with
  | true =>
    simp only [if_true]
    rw [createS_other (fun s hs => by rw [hz] at hs; injection hs with hs; subst hs; omega)]
    exact hz
  | false =>
    simp only [Bool.false_eq_true, if_false]
    rw [destroyS_zero]
    exact hz

end Go.Proofs.YtnimaajnlkbdaaaGreat
