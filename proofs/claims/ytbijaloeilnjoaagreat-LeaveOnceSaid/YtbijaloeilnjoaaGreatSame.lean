/- Calls on their way held against each other: the walks of the document's Tell, Ints, and its two Sames, where both are the same. -/
import Derived.Test.YtbijaloeilnjoaaGreatRT
import Derived.Deep.QuietTactic
namespace Go.Proofs.YtbijaloeilnjoaaGreat
open Go.RowKit

set_option maxRecDepth 100000 in
set_option maxHeartbeats 1000000 in
theorem rtell_any (r : Rn) (code n : Int) (w : World) :
  Calls Tryz.prog 51 #[r.v, .int .i64 code, .int .i64 n] w fun e w' => e = .returned (toldR r code n r.said).v ∧ Below w.heap.size w w' := by
 obtain ⟨cs, Hcs⟩ : ∃ cs, Hid (r.arr = cs) := ⟨_, Lib.hid rfl⟩
 obtain ⟨cs', Hcs'⟩ : ∃ cs', Hid ((toldR r code n r.said).arr = cs') := ⟨_, Lib.hid rfl⟩
 have h18 : cs[18]? = some r.said.v := by rw [← Hcs.out]; rfl
 have h21 : cs[21]? = some (.bool r.done) := by rw [← Hcs.out]; rfl
 have h22 : cs[22]? = some (.bool r.point) := by rw [← Hcs.out]; rfl
 have h23 : cs[23]? = some (.int .i64 r.code) := by rw [← Hcs.out]; rfl
 have h24 : cs[24]? = some (.int .i64 r.an) := by rw [← Hcs.out]; rfl
 have h25 : cs[25]? = some r.asaid.v := by rw [← Hcs.out]; rfl
 have Hsz := Lib.hid (show cs.size = 26 by rw [← Hcs.out]; rfl)
 have Hfin := Lib.hid (show ((((cs.setIfInBounds 21 (.bool true)).setIfInBounds 22 (.bool true)).setIfInBounds 23 (.int .i64 code)).setIfInBounds 24 (.int .i64 n)).setIfInBounds 25 (.slice r.said.a r.said.n r.said.c) = cs' by rw [← Hcs.out, ← Hcs'.out]; rfl)
 have HI := Lib.hid (show (Tryz.prog.info? 43).map (·.size) = some cs'.size by rw [← Hcs'.out]; exact infoRun)
 have HO := Lib.hid (show cs'.all (·.oneCell') = true by rw [← Hcs'.out]; exact Rn.one _)
 show Calls _ _ #[.agg r.arr, _, _] _ _
 rw [Hcs.out]
 have Hgoal : ∀ (e : Ending) (w' : World), (e = .returned (.agg cs') ∧ Below w.heap.size w w') → (e = .returned (toldR r code n r.said).v ∧ Below w.heap.size w w') := by rintro e w' ⟨rfl, hb⟩; exact ⟨by rw [← Hcs'.out], hb⟩
 refine Calls.mono ?_ Hgoal
 clear Hgoal
 go_enter Tryz.func51, Tryz.ntmps51
 go_upto_region 4 with fail
 refine two_rows w _ _ _ _ ?_
 intro W hR0 hR1 hB
 rw [Hfin.out] at hR0
 have HR0 := Lib.hid hR0
 have HR1 := Lib.hid hR1
 have z1 := lt_of_heap hR1
 clear hR0 hR1 h18 h21 h22 h23 h24 h25
 go_wp2_with (first | refine wpList_load_row rfl 43 (.tmp 3) rfl w.heap.size rfl 43 cs' (0, 0) _ HR0.out undRun rfl HI.out ?_ | refine wpList_store_row rfl 43 (.tmp 6) (.tmp 15) rfl (w.heap.size + 1) cs' rfl rfl 43 _ HR1.out HI.out (by rw [← Hcs'.out]; rfl) HO.out ?_)
 refine bodyPost_ret (results_cell_row (fn := Tryz.f51) rfl _ _ (w.heap.size + 1) 43 cs' (0, 0) _ rfl (setRow_heap W (w.heap.size + 1) _ cs' 43 (0, 0) HR1.out) undRun rfl HI.out) rfl ?_
 exact ⟨rfl, below_setRow hB (by omega) _⟩

set_option maxRecDepth 100000 in
set_option maxHeartbeats 400000 in
theorem ints_refl (A B : Option Addr) (c d : Nat) (l : List Int) (w : World) (hl : l.length ≤ 9223372036854775807) (ha : Cells w A (l.flatMap nCells)) (hb : Cells w B (l.flatMap nCells)) :
  Calls Tryz.prog 27 #[.slice A l.length c, .slice B l.length d] w fun e w' => e = .returned (.bool true) ∧ Below w.heap.size w w' := by
 go_enter Tryz.func27, Tryz.ntmps27
 go_wp2
 go_loopw [5] (fun t wr => ∃ k nq : Nat, k ≤ l.length ∧ t = .int .i64 k ∧ wr = w.drewN nq)
  (fun t _ => l.length - (intOf t).toNat)
 case atStart => exact ⟨0, 0, Nat.zero_le _, rfl, rfl⟩
 case round =>
  obtain ⟨k, nq, hk, rfl, rfl⟩ := hrel
  by_cases hlt : k < l.length
  ·obtain ⟨b, off, rfl, hb0, hc⟩ := n_at ha (by omega)
   obtain ⟨b', off', rfl, hb0', hc'⟩ := n_at hb (by omega)
   obtain ⟨s, hv⟩ : ∃ s, l[k]? = some s := ⟨_, List.getElem?_eq_getElem hlt⟩
   have h0 := hc k s hv
   have h2 := hc' k s hv
   have Hv := Lib.hid hv
   clear hv hc hc' ha hb
   go_wp2
   go_quiet (fail)
   go_wp2
   go_roundw
   case rel => exact ⟨k + 1, _, hlt, by go_num, rfl⟩
   case measure => simp [intOf]; omega
  ·go_wp2
   go_ret
   exact ⟨rfl, by repeat (first | exact Below.refl _ _ | refine below_drewN ?_ _)⟩


@[go_sem] theorem eqgCall : Tryz.prog.eqGuardType Tryz.prog.depth 35 = false := by kernel_rfl
theorem stoodCall : Tryz.prog.stoodInHeld 35 = false := by kernel_rfl
theorem undCall : Tryz.prog.underlying 35 = some (.struct (Tryz.prog.fieldsOf 35)) := by kernel_rfl
theorem u8Eql (d : Nat) (s s' : Int) (w : World) : (Op.equalIn (d + 1) 5 (.int .u8 s) (.int .u8 s')).run Tryz.prog w = .ok (s == s') w := by
 simp [Op.equalIn, go_sem]
@[go_sem high] theorem eqlCall (c1 c2 c3 c4 c5 c6 c7 : Int) (w : World) : (binOp .eql 35 (.agg #[.int .u8 c1, .int .u8 c2, .int .u8 c3, .int .u8 c4, .int .i64 c5, .int .i64 c6, .int .i64 c7]) (.agg #[.int .u8 c1, .int .u8 c2, .int .u8 c3, .int .u8 c4, .int .i64 c5, .int .i64 c6, .int .i64 c7])).run Tryz.prog w = .ok (.bool true) w := by
 rw [run_eql_struct, run_equalIn_agg _ _ _ _ _ undCall stoodCall]
 simp [Op.eqFields, go_sem, intEql, u8Eql]

theorem run_box {w : World} {g : Nat} {r : Rn} (h : w.heap[g]? = some (.cells r.arr 43 (0, 0))) :
  w.cell? ⟨g, 0, none⟩ = some (.int .u8 r.c.op) ∧ w.cell? ⟨g, 1, none⟩ = some (.int .u8 r.c.r) ∧ w.cell? ⟨g, 2, none⟩ = some (.int .u8 r.c.h) ∧ w.cell? ⟨g, 3, none⟩ = some (.int .u8 r.c.v) ∧ w.cell? ⟨g, 4, none⟩ = some (.int .i64 r.c.a) ∧ w.cell? ⟨g, 5, none⟩ = some (.int .i64 r.c.b) ∧ w.cell? ⟨g, 6, none⟩ = some (.int .i64 r.c.c) ∧ w.cell? ⟨g, 7, none⟩ = some (.int .i64 r.pc) ∧ w.cell? ⟨g, 8, none⟩ = some (.int .i64 r.area) ∧ w.cell? ⟨g, 9, none⟩ = some (.int .u64 r.hand) ∧ w.cell? ⟨g, 10, none⟩ = some (.int .u64 r.val) ∧ w.cell? ⟨g, 11, none⟩ = some (r.chain.v) ∧ w.cell? ⟨g, 12, none⟩ = some (.int .u64 r.word) ∧ w.cell? ⟨g, 13, none⟩ = some (.int .u64 r.next) ∧ w.cell? ⟨g, 14, none⟩ = some (.int .i64 r.at_) ∧ w.cell? ⟨g, 15, none⟩ = some (.int .i64 r.top) ∧ w.cell? ⟨g, 16, none⟩ = some (r.list.v) ∧ w.cell? ⟨g, 17, none⟩ = some (.int .i64 r.op) ∧ w.cell? ⟨g, 18, none⟩ = some (r.said.v) ∧ w.cell? ⟨g, 19, none⟩ = some (.int .i64 r.n) ∧ w.cell? ⟨g, 20, none⟩ = some (.bool r.held) ∧ w.cell? ⟨g, 21, none⟩ = some (.bool r.done) ∧ w.cell? ⟨g, 22, none⟩ = some (.bool r.point) ∧ w.cell? ⟨g, 23, none⟩ = some (.int .i64 r.code) ∧ w.cell? ⟨g, 24, none⟩ = some (.int .i64 r.an) ∧ w.cell? ⟨g, 25, none⟩ = some (r.asaid.v) :=
 ⟨by rw [row_cell h]; rfl, by rw [row_cell h]; rfl, by rw [row_cell h]; rfl, by rw [row_cell h]; rfl, by rw [row_cell h]; rfl, by rw [row_cell h]; rfl, by rw [row_cell h]; rfl, by rw [row_cell h]; rfl, by rw [row_cell h]; rfl, by rw [row_cell h]; rfl, by rw [row_cell h]; rfl, by rw [row_cell h]; rfl, by rw [row_cell h]; rfl, by rw [row_cell h]; rfl, by rw [row_cell h]; rfl, by rw [row_cell h]; rfl, by rw [row_cell h]; rfl, by rw [row_cell h]; rfl, by rw [row_cell h]; rfl, by rw [row_cell h]; rfl, by rw [row_cell h]; rfl, by rw [row_cell h]; rfl, by rw [row_cell h]; rfl, by rw [row_cell h]; rfl, by rw [row_cell h]; rfl, by rw [row_cell h]; rfl⟩

/-- a call on its way, and what its slices hold -/
structure RunIn (w : World) (r : Rn) (l : List Ent) (li sa an : List Int) : Prop where
 chN : r.chain.n = l.length
 chM : l.length ≤ 1048576
 ch : Ents w r.chain.a l
 liN : r.list.n = li.length
 liM : li.length ≤ 1048576
 li : Cells w r.list.a (li.flatMap nCells)
 saN : r.said.n = sa.length
 saM : sa.length ≤ 1048576
 sa : Cells w r.said.a (sa.flatMap nCells)
 anN : r.asaid.n = an.length
 anM : an.length ≤ 1048576
 an : Cells w r.asaid.a (an.flatMap nCells)
theorem RunIn.below {w w' : World} {r : Rn} {l : List Ent} {li sa an : List Int} (h : RunIn w r l li sa an) (hb : Below w.heap.size w w') : RunIn w' r l li sa an :=
 { h with ch := Cells.below h.ch hb, li := Cells.below h.li hb, sa := Cells.below h.sa hb, an := Cells.below h.an hb }


end Go.Proofs.YtbijaloeilnjoaaGreat
