/- Words for regions that draw their order and hold whole calls on their way (26 cells): what is taken first, an alloc and a store by whole rows. -/
import Derived.Test.YtnimaajnlkbdaaaGreatRun
import Derived.Deep.RegionHeld3
namespace Go.Proofs.YtnimaajnlkbdaaaGreat
open Go.RowKit

theorem wpAnyH_take_at {P : Program} {md : Region.Mode} {ops : Array Oper} {Q : Exit → Act → World → Prop} {S : World → Prop} {i : Nat} {oi : Oper} {v : Value} {fuel : Nat} {listed : Array Bool} {a : Act} {w : World} (d : Option Tmp) (hi : ops[i]? = some oi) (hd : oi.dst = d)
  (hs : Region.noSelect ops = true) (hf : Region.free md ops listed i = true) (hr : (Region.ready md ops listed).contains i = true)
  (hQ : ∀ c a w, Q (.panic c) (a.put d v) w → Q (.panic c) a w) (hy : YieldsIf P ops S oi v a) (hS : S w)
  (h : wpAnyH P md ops Q S fuel (listed.setIfInBounds i true) (a.put d v) w) : wpAnyH P md ops Q S (fuel + 1) listed a w := by
 subst hd
 exact wpAnyH_take hi hs hf hr hQ hy hS h

theorem step_store_row {P : Program} {ops : Array Oper} {o : Oper} {a : Act} {w : World} {K : Act → World → Prop} {Q : Exit → Act → World → Prop} {E : Prop} (d : Option Tmp) (hd : o.dst = d) (hgd : o.guard = none) (ty : TypeId) (x y : Operand) (ho : o.op = .store ty x y)
  (g : Nat) (cells : Array Value) (hx : a.eval x = .pointer (some ⟨g, 0, none⟩)) (hy : a.eval y = .agg cells)
  (t : TypeId) (old : Array Value) (hg : w.heap[g]? = some (.cells old t (0, 0))) (hi : (P.info? ty).map (·.size) = some cells.size)
  (hold : old.size = cells.size) (h1 : cells.all (·.oneCell') = true)
  (h : K (a.put d undef) (w.setRow g cells)) : if Region.wanted o (yielded ops a.tmps) = true then Oper.wp P o a w K Q else E := by
 subst hd
 have hw : Region.wanted o (yielded ops a.tmps) = true := by simp [Region.wanted, hgd]
 rw [if_pos hw]
 exact wp_store_row ty x y ho g cells hx hy t old hg hi hold h1 h

def ZRun : Array Value := #[.int .u8 0, .int .u8 0, .int .u8 0, .int .u8 0, .int .i64 0, .int .i64 0, .int .i64 0, .int .i64 0, .int .i64 0, .int .u64 0, .int .u64 0, .slice none 0 0, .int .u64 0, .int .u64 0, .int .i64 0, .int .i64 0, .slice none 0 0, .int .i64 0, .slice none 0 0, .int .i64 0, .bool false, .bool false, .bool false, .int .i64 0, .int .i64 0, .slice none 0 0]
theorem allocRun (w : World) : (Instr.alloc 43 true (.tuple #[])).run Tryz.prog w = .ok (.pointer (some ⟨w.heap.size, 0, none⟩)) (w.alloc (.cells ZRun 43)) := by kernel_rfl
theorem step_alloc_run {ops : Array Oper} {o : Oper} {a : Act} {w : World} {K : Act → World → Prop} {Q : Exit → Act → World → Prop} {E : Prop} (d : Option Tmp) (hd : o.dst = d) (hgd : o.guard = none) (ho : o.op = .alloc 43)
  (h : K (a.put d (.pointer (some ⟨w.heap.size, 0, none⟩))) (w.alloc (.cells ZRun 43))) : if Region.wanted o (yielded ops a.tmps) = true then Oper.wp Tryz.prog o a w K Q else E := by
 subst hd
 have hw : Region.wanted o (yielded ops a.tmps) = true := by simp [Region.wanted, hgd]
 rw [if_pos hw]
 unfold Oper.wp execOp
 simp only [ho, allocRun, Sem.run_bind, Sem.run_pure, Result.andThen_ok]
 exact h


theorem cells_setRow {w : World} {A : Option Addr} {cs : List Value} (h : Cells w A cs) {g : Nat} (hne : ∀ a, A = some a → a.block ≠ g) (c : Array Value) : Cells (w.setRow g c) A cs := by
 intro h0
 obtain ⟨b, off, rfl, hc⟩ := h h0
 exact ⟨b, off, rfl, fun j v hv => (World.cell?_of_block (setRow_other w g b c (hne _ rfl))).trans (hc j v hv)⟩

theorem ents_far {w : World} {A : Option Addr} {l : List Ent} (h : Ents w A l) {g : Nat} (hg : w.heap.size ≤ g) : ∀ a, 0 < l.length → A = some a → a.block ≠ g := by
 intro a h0 ha
 obtain ⟨b, off, h1, h2, _⟩ := h.at_ h0
 rw [h1] at ha
 injection ha with ha
 subst ha
 dsimp only
 omega
theorem ents_setRow {w : World} {A : Option Addr} {l : List Ent} (h : Ents w A l) {g : Nat} (hne : ∀ a, 0 < l.length → A = some a → a.block ≠ g) (c : Array Value) : Ents (w.setRow g c) A l := by
 intro h0
 have h1 : 0 < l.length := by rw [ents_len] at h0; omega
 exact cells_setRow h (fun a ha => hne a h1 ha) c h0
theorem ents_setCell {w : World} {A : Option Addr} {l : List Ent} (h : Ents w A l) {p : Addr} (hne : ∀ a, 0 < l.length → A = some a → a.block ≠ p.block) (u : Value) : Ents (w.setCell p u) A l := by
 intro h0
 have h1 : 0 < l.length := by rw [ents_len] at h0; omega
 exact Cells.setCell h (fun a ha => hne a h1 ha) u h0

end Go.Proofs.YtnimaajnlkbdaaaGreat
