/- A call on its way, in memory: the walks of Tell, of the document's Tell and Same, of slices.Clone at ints. Words for regions that draw their order and hold whole calls on their way (26 cells): what is taken first, an alloc and a store by whole rows. -/
import Derived.Test.YtbijaloeilnjoaaGreatBeginPlain
import Derived.Test.YtbijaloeilnjoaaGreatMB
import Derived.Test.YtbijaloeilnjoaaGreatMA
import Derived.BigQuiet
import Derived.Deep.Cut
import Derived.Deep.CutRange
import Derived.Deep.CutBlock
import Derived.Deep.RegionHeld3
namespace Go.Proofs.YtbijaloeilnjoaaGreat
open Go.RowKit

/-- a slice value -/
structure Sl where
 a : Option Addr
 n : Nat
 c : Nat
abbrev Sl.v (s : Sl) : Value := .slice s.a s.n s.c
abbrev noS : Sl := ⟨none, 0, 0⟩
/-- a call on its way -/
structure Rn where
 c : Cal
 pc : Int
 area : Int
 hand : Int
 val : Int
 chain : Sl
 word : Int
 next : Int
 at_ : Int
 top : Int
 list : Sl
 op : Int
 said : Sl
 n : Int
 held : Bool
 done : Bool
 point : Bool
 code : Int
 an : Int
 asaid : Sl
abbrev Rn.arr (r : Rn) : Array Value := #[.int .u8 r.c.op, .int .u8 r.c.r, .int .u8 r.c.h, .int .u8 r.c.v, .int .i64 r.c.a, .int .i64 r.c.b, .int .i64 r.c.c, .int .i64 r.pc, .int .i64 r.area, .int .u64 r.hand, .int .u64 r.val, r.chain.v, .int .u64 r.word, .int .u64 r.next, .int .i64 r.at_, .int .i64 r.top, r.list.v, .int .i64 r.op, r.said.v, .int .i64 r.n, .bool r.held, .bool r.done, .bool r.point, .int .i64 r.code, .int .i64 r.an, r.asaid.v]
abbrev Rn.v (r : Rn) : Value := .agg r.arr
abbrev Cal.vl (c : Cal) : Value := .agg #[.int .u8 c.op, .int .u8 c.r, .int .u8 c.h, .int .u8 c.v, .int .i64 c.a, .int .i64 c.b, .int .i64 c.c]

abbrev nCells (x : Int) : List Value := [.int .i64 x]
theorem n_at {w : World} {A : Option Addr} {l : List Int} (h : Cells w A (l.flatMap nCells)) (h0 : 0 < l.length) : ∃ b off, A = some ⟨b, off, none⟩ ∧ b < w.heap.size ∧ ∀ k x, l[k]? = some x → w.cell? ⟨b, off + k, none⟩ = some (.int .i64 x) := by
 obtain ⟨b, off, e, hb, hc⟩ := Cells.at_ h (by rw [flat_length nCells 1 (fun _ => rfl)]; omega)
 refine ⟨b, off, e, hb, fun k x hk => ?_⟩
 have := hc (k * 1 + 0) (.int .i64 x) (by rw [flat_get nCells 1 (fun _ => rfl) l k 0 (by omega), hk]; rfl)
 simpa using this

@[go_sem] theorem eqlIntsNil (w : World) (a : Option Addr) (n c n' c' : Nat) : (binOp .eql 38 (.slice a n c) (.slice none n' c')).run Tryz.prog w = .ok (.bool a.isNone) w :=
 Lib.run_eql_slice_nil w _ _ a n c n' c' Tryz.underlying38
set_option maxRecDepth 100000 in
set_option maxHeartbeats 400000 in
theorem cloneN_nil (w : World) :
  Calls Tryz.prog 115 #[noS.v] w fun e w' => e = .returned noS.v ∧ w' = w := by
 go_enter Tryz.func115, Tryz.ntmps115
 go_wp2
 go_ret
 exact ⟨rfl, rfl⟩

theorem undRun : Tryz.prog.underlying 43 = some (.struct (Tryz.prog.fieldsOf 43)) := by kernel_rfl
theorem infoRun : (Tryz.prog.info? 43).map (·.size) = some 26 := by kernel_rfl
theorem Rn.one (r : Rn) : r.arr.all (·.oneCell') = true := by
 simp [Value.oneCell']
theorem row_at {w : World} {cs : Array Value} {t : TypeId} {g : Nat} (h : g = w.heap.size) : (w.alloc (.cells cs t)).heap[g]? = some (.cells cs t (0, 0)) := heap_at h

theorem two_rows {P : World → Prop} (w : World) (c0 c1 : Array Value) (t0 t1 : TypeId) (h : ∀ W, W.heap[w.heap.size]? = some (.cells c0 t0 (0, 0)) → W.heap[w.heap.size + 1]? = some (.cells c1 t1 (0, 0)) → Below w.heap.size w W → P W) :
  P ((w.alloc (.cells c0 t0)).alloc (.cells c1 t1)) :=
 h _ (row_alloc (row_new _ _ _)) (row_at (by simp)) (by go_grown)

/-- a call that is told -/
def toldR (r : Rn) (code n : Int) (said : Sl) : Rn := { r with done := true, point := true, code := code, an := n, asaid := said }

set_option maxRecDepth 100000 in
set_option maxHeartbeats 1000000 in
theorem tell_any (r : Rn) (code n : Int) (w : World) (hs : r.said = noS) :
  Calls Tryz.prog 77 #[r.v, .int .i64 code, .int .i64 n] w fun e w' => e = .returned (toldR r code n noS).v ∧ Below w.heap.size w w' := by
 obtain ⟨cs, Hcs⟩ : ∃ cs, Hid (r.arr = cs) := ⟨_, Lib.hid rfl⟩
 obtain ⟨cs', Hcs'⟩ : ∃ cs', Hid ((toldR r code n noS).arr = cs') := ⟨_, Lib.hid rfl⟩
 have h18 : cs[18]? = some noS.v := by rw [← Hcs.out, ← hs]; rfl
 have h21 : cs[21]? = some (.bool r.done) := by rw [← Hcs.out]; rfl
 have h22 : cs[22]? = some (.bool r.point) := by rw [← Hcs.out]; rfl
 have h23 : cs[23]? = some (.int .i64 r.code) := by rw [← Hcs.out]; rfl
 have h24 : cs[24]? = some (.int .i64 r.an) := by rw [← Hcs.out]; rfl
 have h25 : cs[25]? = some r.asaid.v := by rw [← Hcs.out]; rfl
 have Hsz := Lib.hid (show cs.size = 26 by rw [← Hcs.out]; rfl)
 have Hfin := Lib.hid (show ((((cs.setIfInBounds 21 (.bool true)).setIfInBounds 22 (.bool true)).setIfInBounds 23 (.int .i64 code)).setIfInBounds 24 (.int .i64 n)).setIfInBounds 25 (.slice none 0 0) = cs' by rw [← Hcs.out, ← Hcs'.out]; rfl)
 have HI := Lib.hid (show (Tryz.prog.info? 43).map (·.size) = some cs'.size by rw [← Hcs'.out]; exact infoRun)
 have HO := Lib.hid (show cs'.all (·.oneCell') = true by rw [← Hcs'.out]; exact Rn.one _)
 show Calls _ _ #[.agg r.arr, _, _] _ _
 rw [Hcs.out]
 have Hgoal : ∀ (e : Ending) (w' : World), (e = .returned (.agg cs') ∧ Below w.heap.size w w') → (e = .returned (toldR r code n noS).v ∧ Below w.heap.size w w') := by rintro e w' ⟨rfl, hb⟩; exact ⟨by rw [← Hcs'.out], hb⟩
 refine Calls.mono ?_ Hgoal
 clear Hgoal
 go_enter Tryz.func77, Tryz.ntmps77
 go_upto_region 3 with (go_at_call 115; refine (cloneN_nil _).mono ?_; rintro e w1 ⟨rfl, rfl⟩)
 refine two_rows w _ _ _ _ ?_
 intro W hR0 hR1 hB
 rw [Hfin.out] at hR0
 have HR0 := Lib.hid hR0
 have HR1 := Lib.hid hR1
 have z1 := lt_of_heap hR1
 clear hR0 hR1 h18 h21 h22 h23 h24 h25
 go_wp2_with (first | refine wpList_load_row rfl 43 (.tmp 3) rfl w.heap.size rfl 43 cs' (0, 0) _ HR0.out undRun rfl HI.out ?_ | refine wpList_store_row rfl 43 (.tmp 6) (.tmp 16) rfl (w.heap.size + 1) cs' rfl rfl 43 _ HR1.out HI.out (by rw [← Hcs'.out]; rfl) HO.out ?_)
 refine bodyPost_ret (results_cell_row (fn := Tryz.f77) rfl _ _ (w.heap.size + 1) 43 cs' (0, 0) _ rfl (setRow_heap W (w.heap.size + 1) _ cs' 43 (0, 0) HR1.out) undRun rfl HI.out) rfl ?_
 exact ⟨rfl, below_setRow hB (by omega) _⟩
end Go.Proofs.YtbijaloeilnjoaaGreat

namespace Go.Proofs.YtbijaloeilnjoaaGreat
open Go.RowKit

theorem wpAnyH_take_at {P : Program} {md : Region.Mode} {ops : Array Oper} {Q : Exit → Act → World → Prop} {S : World → Prop} {i : Nat} {oi : Oper} {v : Value} {fuel : Nat} {listed : Array Bool} {a : Act} {w : World} (d : Option Tmp) (hi : ops[i]? = some oi) (hd : oi.dst = d)
  (hs : Region.noSelect ops = true) (hf : Region.free md ops listed i = true) (hr : (Region.ready md ops listed).contains i = true)
  (hQ : ∀ c a w, Q (.panic c) (a.put d v) w → Q (.panic c) a w) (hy : YieldsIf P ops S oi v a) (hS : S w)
  (h : wpAnyH P md ops Q S fuel (listed.setIfInBounds i true) (a.put d v) w) : wpAnyH P md ops Q S (fuel + 1) listed a w := by
 subst hd
 exact wpAnyH_take hi hs hf hr hQ hy hS h

theorem tk {P : Program} {md : Region.Mode} {ops : Array Oper} {Q : Exit → Act → World → Prop} {S : World → Prop} {i : Nat} {oi : Oper} {v : Value} {fuel : Nat} {listed : Array Bool} {a : Act} {w : World} (d : Option Tmp) (hi : ops[i]? = some oi) (hd : oi.dst = d)
 (hy : YieldsIf P ops S oi v a) (h : wpAnyH P md ops Q S fuel (listed.setIfInBounds i true) (a.put d v) w)
 (hs : Region.noSelect ops = true := by kernel_rfl) (hf : Region.free md ops listed i = true := by kernel_rfl) (hr : (Region.ready md ops listed).contains i = true := by kernel_rfl)
 (hQ : ∀ c a w, Q (.panic c) (a.put d v) w → Q (.panic c) a w := by exact fun _ _ _ h => h) (hS : S w := by assumption) : wpAnyH P md ops Q S (fuel + 1) listed a w :=
 wpAnyH_take_at d hi hd hs hf hr hQ hy hS h
theorem step_store_row {P : Program} {ops : Array Oper} {o : Oper} {a : Act} {w : World} {K : Act → World → Prop} {Q : Exit → Act → World → Prop} {E : Prop} (d : Option Tmp) (hd : o.dst = d) (hgd : o.guard = none) (ty : TypeId) (x y : Operand) (ho : o.op = .store ty x y)
  (g : Nat) (cells : Array Value) (hx : a.eval x = .pointer (some ⟨g, 0, none⟩)) (hy : a.eval y = .agg cells)
  (t : TypeId) (old : Array Value) (hg : w.heap[g]? = some (.cells old t (0, 0))) (hi : (P.info? ty).map (·.size) = some cells.size)
  (hold : old.size = cells.size) (h1 : cells.all (·.oneCell') = true)
  (h : K (a.put d undef) (w.setRow g cells)) : if Region.wanted o (yielded ops a.tmps) = true then Oper.wp P o a w K Q else E := by
 subst hd
 have hw : Region.wanted o (yielded ops a.tmps) = true := by simp [Region.wanted, hgd]
 rw [if_pos hw]
 exact wp_store_row ty x y ho g cells hx hy t old hg hi hold h1 h

def ZRun : Array Value := #[.int .u8 0, .int .u8 0, .int .u8 0, .int .u8 0, .int .i64 0, .int .i64 0, .int .i64 0, .int .i64 0, .int .i64 0, .int .u64 0, .int .u64 0, .slice none 0 0, .int .u64 0, .int .u64 0, .int .i64 0, .int .i64 0, .slice none 0 0, .int .i64 0, .slice none 0 0, .int .i64 0, .bool false, .bool false, .bool false, .int .i64 0, .int .i64 0, .slice none 0 0]
theorem allocRun (w : World) : (Instr.alloc 43 true (.tuple #[])).run Tryz.prog w = .ok (.pointer (some ⟨w.heap.size, 0, none⟩)) (w.alloc (.cells ZRun 43)) := by kernel_rfl
theorem step_alloc_run {ops : Array Oper} {o : Oper} {a : Act} {w : World} {K : Act → World → Prop} {Q : Exit → Act → World → Prop} {E : Prop} (d : Option Tmp) (hd : o.dst = d) (hgd : o.guard = none) (ho : o.op = .alloc 43)
  (h : K (a.put d (.pointer (some ⟨w.heap.size, 0, none⟩))) (w.alloc (.cells ZRun 43))) : if Region.wanted o (yielded ops a.tmps) = true then Oper.wp Tryz.prog o a w K Q else E := by
 subst hd
 have hw : Region.wanted o (yielded ops a.tmps) = true := by simp [Region.wanted, hgd]
 rw [if_pos hw]
 unfold Oper.wp execOp
 simp only [ho, allocRun, Sem.run_bind, Sem.run_pure, Result.andThen_ok]
 exact h


theorem cells_setRow {w : World} {A : Option Addr} {cs : List Value} (h : Cells w A cs) {g : Nat} (hne : ∀ a, A = some a → a.block ≠ g) (c : Array Value) : Cells (w.setRow g c) A cs := by
 intro h0
 obtain ⟨b, off, rfl, hc⟩ := h h0
 exact ⟨b, off, rfl, fun j v hv => (World.cell?_of_block (setRow_other w g b c (hne _ rfl))).trans (hc j v hv)⟩

theorem ents_far {w : World} {A : Option Addr} {l : List Ent} (h : Ents w A l) {g : Nat} (hg : w.heap.size ≤ g) : ∀ a, 0 < l.length → A = some a → a.block ≠ g := by
 intro a h0 ha
 obtain ⟨b, off, h1, h2, _⟩ := h.at_ h0
 rw [h1] at ha
 injection ha with ha
 subst ha
 dsimp only
 omega
theorem ents_setRow {w : World} {A : Option Addr} {l : List Ent} (h : Ents w A l) {g : Nat} (hne : ∀ a, 0 < l.length → A = some a → a.block ≠ g) (c : Array Value) : Ents (w.setRow g c) A l := by
 intro h0
 have h1 : 0 < l.length := by rw [ents_len] at h0; omega
 exact cells_setRow h (fun a ha => hne a h1 ha) c h0

end Go.Proofs.YtbijaloeilnjoaaGreat
