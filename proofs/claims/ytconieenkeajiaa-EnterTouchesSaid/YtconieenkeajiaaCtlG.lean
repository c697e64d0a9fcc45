/- The law's shown; the reference's Unpack and Fit; == between control words; how such a thing is opened. -/
import Derived.Test.YtconieenkeajiaaCtlF
import Derived.Test.YtconieenkeajiaaOpen
import Derived.Deep.RegionHeld3
import Derived.Lib.SmallJoins
namespace Go.Proofs.Ytconieenkeajiaa
open Go.RowKit

@[go_sem] theorem eqgCtl : Try.prog.eqGuardType Try.prog.depth 23 = false := by kernel_rfl
theorem stoodCtl : Try.prog.stoodInHeld 23 = false := by kernel_rfl
theorem undCtl : Try.prog.underlying 23 = some (.struct (Try.prog.fieldsOf 23)) := by kernel_rfl
theorem intEqlC (d : Nat) (s s' : Int) (w : World) : (Op.equalIn (d + 1) 3 (.int .i64 s) (.int .i64 s')).run Try.prog w = .ok (s == s') w := run_equalIn_int w d _ _ _ _ _ Try.underlying3

def ctlEq (a b : Ctl) : Bool := decide (a.st = b.st ∧ a.n = b.n ∧ a.p = b.p ∧ a.ep = b.ep)
@[simp, go_sem] theorem ctlEq_self (a : Ctl) : ctlEq a a = true := by simp [ctlEq]
theorem ctlEq_iff (a b : Ctl) : ctlEq a b = true ↔ a = b := by
  simp only [ctlEq, decide_eq_true_eq]
  exact ⟨fun ⟨h1, h2, h3, h4⟩ => Ctl.ext_ h1 h2 h3 h4, fun h => by subst h; exact ⟨rfl, rfl, rfl, rfl⟩⟩

theorem run_ctlEq (d : Nat) (a b : Ctl) (w : World) : (Op.equalIn (d + 2) 23 a.val b.val).run Try.prog w = .ok (ctlEq a b) w := by
  obtain ⟨s, n, p, e⟩ := a
  obtain ⟨s', n', p', e'⟩ := b
  rw [run_equalIn_agg _ _ _ _ _ undCtl stoodCtl]
  simp [Op.eqFields, go_sem, intEqlC, ctlEq]
  by_cases h : s = s' <;> by_cases h1 : n = n' <;> by_cases h2 : p = p' <;> by_cases h3 : e = e' <;> simp [h, h1, h2, h3]

@[go_sem high] theorem eqlCtl (w : World) (s n p e s' n' p' e' : Int) : (binOp .eql 23 (.agg #[.int .i64 s, .int .i64 n, .int .i64 p, .int .i64 e]) (.agg #[.int .i64 s', .int .i64 n', .int .i64 p', .int .i64 e'])).run Try.prog w = .ok (.bool (ctlEq ⟨s, n, p, e⟩ ⟨s', n', p', e'⟩)) w := by
  rw [run_eql_struct]
  have h := run_ctlEq 9998 ⟨s, n, p, e⟩ ⟨s', n', p', e'⟩ w
  rw [show (10000 : Nat) = 9998 + 2 from rfl, h]
  rfl
@[go_sem high] theorem neqCtl (w : World) (s n p e s' n' p' e' : Int) : (binOp .neq 23 (.agg #[.int .i64 s, .int .i64 n, .int .i64 p, .int .i64 e]) (.agg #[.int .i64 s', .int .i64 n', .int .i64 p', .int .i64 e'])).run Try.prog w = .ok (.bool !(ctlEq ⟨s, n, p, e⟩ ⟨s', n', p', e'⟩)) w := by
  rw [run_neq_struct]
  have h := run_ctlEq 9998 ⟨s, n, p, e⟩ ⟨s', n', p', e'⟩ w
  rw [show (10000 : Nat) = 9998 + 2 from rfl, h]
  rfl

set_option maxRecDepth 100000 in
theorem open_ctl {H : Type} {enc : TypeId × Value → H} {w : World} {base : Nat} {spare : Nat → Bool} {held : Bool} {r : Reach} {b0 : Nat} {v : Value} {d : DataW H} {p : List MemPlace}
    (hv : Value.okWide Try.prog w r b0 23 v) (h : DataW.Trod enc Try.prog w base spare held 23 v d p) :
    ∃ (s n q e : Int), v = .agg #[.int .i64 s, .int .i64 n, .int .i64 q, .int .i64 e] ∧ (Lit.int .i64 s).wf = true ∧ (Lit.int .i64 n).wf = true ∧ (Lit.int .i64 q).wf = true ∧ (Lit.int .i64 e).wf = true := by
  obtain ⟨v0, v1, v2, v3, y0, y1, y2, y3, m, rfl, _, _, h0, h1, h2, h3⟩ := Go.Joins.open_agg4 Try.underlying23 (by kernel_rfl) (by kernel_rfl) hv h
  obtain ⟨a, ha, _, wa⟩ := DataW.trod_int Try.underlying3 h0
  obtain ⟨b, hb, _, wb⟩ := DataW.trod_int Try.underlying3 h1
  obtain ⟨c, hc, _, wc⟩ := DataW.trod_int Try.underlying3 h2
  obtain ⟨e, he, _, we⟩ := DataW.trod_int Try.underlying3 h3
  simp at ha hb hc he
  subst ha; subst hb; subst hc; subst he
  exact ⟨a, b, c, e, rfl, wa, wb, wc, we⟩

end Go.Proofs.Ytconieenkeajiaa
