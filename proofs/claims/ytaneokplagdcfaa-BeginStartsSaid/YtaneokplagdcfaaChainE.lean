/- Push and Pop of both texts in one form; the law's 'few' and 'shown'; how entries are opened; the law ChainAll's walk. -/
import Derived.Test.YtaneokplagdcfaaChainD
import Derived.Test.YtaneokplagdcfaaOpen
namespace Go.Proofs.Ytaneokplagdcfaa
open Go.RowKit

def EntOk (e : Ent) : Prop := -9223372036854775808 ≤ e.1 ∧ e.1 ≤ 9223372036854775807

set_option maxRecDepth 100000 in
theorem ent_of_trod {H : Type} {enc : TypeId × Value → H} {w : World} {base : Nat} {spare : Nat → Bool} {held : Bool} (n : Nat) (cs : List Value) (y : DataW H × List MemPlace)
    (h : DataW.trod enc Try.prog w base spare held n 66 cs = some y) : ∃ a, cs = entCells a ∧ EntOk a := by
  obtain ⟨y0, y1, m, _, hl, h0, h1⟩ := Go.ChangeShapes.trod_struct2 Try.underlying66 h
  have hl2 : cs.length = 2 := hl.trans (by kernel_rfl)
  match cs, hl2 with
  | [c0, c1], _ =>
    have k0 : Try.prog.cellsOf 3 = 1 := by kernel_rfl
    have k1 : Try.prog.cellsOf 4 = 1 := by kernel_rfl
    rw [k0] at h0
    rw [k1] at h1
    obtain ⟨s, hs, _, hw⟩ := DataW.trod_int Try.underlying3 h0
    obtain ⟨x, hx, _⟩ := DataW.trod_bool Try.underlying4 h1
    simp at hs hx
    subst hs; subst hx
    exact ⟨(s, x), rfl, wf_int hw⟩

set_option maxRecDepth 100000 in
theorem open_ent {H : Type} {enc : TypeId × Value → H} {w : World} {base : Nat} {spare : Nat → Bool} {held : Bool} {r : Reach} {b0 : Nat} {v : Value} {d : DataW H} {p : List MemPlace}
    (hv : Value.okWide Try.prog w r b0 66 v) (h : DataW.Trod enc Try.prog w base spare held 66 v d p) : ∃ (s : Int) (x : Bool), v = .agg #[.int .i64 s, .bool x] ∧ EntOk (s, x) := by
  obtain ⟨cs, rfl, _⟩ := Go.WideShapes.okWide_struct Try.underlying66 hv
  obtain ⟨fuel, hf⟩ := h
  obtain ⟨⟨s, x⟩, hc, hq⟩ := ent_of_trod _ _ _ hf
  obtain ⟨l⟩ := cs
  simp only [Value.cells, entCells] at hc
  exact ⟨s, x, by rw [show l = _ from hc], hq⟩

set_option maxRecDepth 100000 in
theorem push_any (A : Option Addr) (c : Nat) (l : List Ent) (s : Int) (x : Bool) (w : World) (hl : l.length ≤ 1048576) (he : Ents w A l) :
    Calls Try.prog 50 #[.slice A l.length c, .agg #[.int .i64 s, .bool x]] w fun e w' => ∃ v, e = .returned (.tuple #[v, .int .i64 (push l (s, x)).2]) ∧ NewEnts w (push l (s, x)).1 v w' := by
  by_cases h : 6 ≤ l.length
  · rw [push, if_pos h]
    exact (push_deep A c l.length s x w h hl).mono fun e w' ⟨he, hb⟩ => ⟨_, he, newRow_nil' hb⟩
  · rw [push, if_neg h]
    exact push_some A c l s x w (by omega) he

set_option maxRecDepth 100000 in
theorem rpush_any (A : Option Addr) (c : Nat) (l : List Ent) (s : Int) (x : Bool) (w : World) (hl : l.length ≤ 1048576) (he : Ents w A l) :
    Calls Try.prog 71 #[.slice A l.length c, .agg #[.int .i64 s, .bool x]] w fun e w' => ∃ v, e = .returned (.tuple #[v, .int .i64 (push l (s, x)).2]) ∧ NewEnts w (push l (s, x)).1 v w' := by
  by_cases h : 6 ≤ l.length
  · rw [push, if_pos h]
    exact (rpush_deep A c l.length s x w h hl).mono fun e w' ⟨he, hb⟩ => ⟨_, he, newRow_nil' hb⟩
  · rw [push, if_neg h]
    exact rpush_some A c l s x w (by omega) he

set_option maxRecDepth 100000 in
theorem pop_any (A : Option Addr) (c : Nat) (l : List Ent) (w : World) (hl : l.length ≤ 1048576) (hc : l.length ≤ c) (he : Ents w A l) :
    Calls Try.prog 55 #[.slice A l.length c] w fun e w' => ∃ v, e = .returned (.tuple #[v, .agg #[.int .i64 (pop l).2.1.1, .bool (pop l).2.1.2], .int .i64 (pop l).2.2]) ∧ NewEnts w (pop l).1 v w' := by
  rcases List.eq_nil_or_concat l with rfl | ⟨l', ⟨s, x⟩, rfl⟩
  · exact (pop_none A c w).mono fun e w' ⟨he, hb⟩ => ⟨_, he, newRow_nil' hb⟩
  · rw [show (l'.concat (s, x)) = l' ++ [(s, x)] by simp] at *
    have hp : pop (l' ++ [(s, x)]) = (l', (s, x), 0) := by simp [pop]
    rw [hp, List.length_append, List.length_singleton]
    rw [List.length_append, List.length_singleton] at hl hc
    exact pop_some A c l' s x w (by omega) (by omega) he

set_option maxRecDepth 100000 in
theorem rpop_any (A : Option Addr) (c : Nat) (l : List Ent) (w : World) (hl : l.length ≤ 1048576) (hc : l.length ≤ c) (he : Ents w A l) :
    Calls Try.prog 41 #[.slice A l.length c] w fun e w' => ∃ v, e = .returned (.tuple #[v, .agg #[.int .i64 (pop l).2.1.1, .bool (pop l).2.1.2], .int .i64 (pop l).2.2]) ∧ NewEnts w (pop l).1 v w' := by
  rcases List.eq_nil_or_concat l with rfl | ⟨l', ⟨s, x⟩, rfl⟩
  · exact (rpop_none A c w).mono fun e w' ⟨he, hb⟩ => ⟨_, he, newRow_nil' hb⟩
  · rw [show (l'.concat (s, x)) = l' ++ [(s, x)] by simp] at *
    have hp : pop (l' ++ [(s, x)]) = (l', (s, x), 0) := by simp [pop]
    rw [hp, List.length_append, List.length_singleton]
    rw [List.length_append, List.length_singleton] at hl hc
    exact rpop_some A c l' s x w (by omega) (by omega) he

@[go_sem high] theorem eqlErr (w : World) (a b : Int) : (binOp .eql 29 (.int .i64 a) (.int .i64 b)).run Try.prog w = .ok (.bool (a == b)) w := by
  simp [go_sem]

end Go.Proofs.Ytaneokplagdcfaa
