/- The walk of the laws' 'shown'. -/
import Derived.Test.YtcicpfhbpcdjcaaScD
namespace Go.Proofs.Ytcicpfhbpcdjcaa
open Go.RowKit

@[go_sem] theorem eqgCtl : Try.prog.eqGuardType Try.prog.depth 43 = false := by kernel_rfl
theorem stoodCtl : Try.prog.stoodInHeld 43 = false := by kernel_rfl
theorem undCtl : Try.prog.underlying 43 = some (.struct (Try.prog.fieldsOf 43)) := by kernel_rfl
theorem intEqlC (d : Nat) (s s' : Int) (w : World) : (Op.equalIn (d + 1) 3 (.int .i64 s) (.int .i64 s')).run Try.prog w = .ok (s == s') w := run_equalIn_int w d _ _ _ _ _ Try.underlying3

def ctlEq (a b : Ctl) : Bool := decide (a.st = b.st ∧ a.n = b.n ∧ a.p = b.p ∧ a.ep = b.ep)
@[simp, go_sem] theorem ctlEq_self (a : Ctl) : ctlEq a a = true := by simp [ctlEq]
theorem ctlEq_iff (a b : Ctl) : ctlEq a b = true ↔ a = b := by
  simp only [ctlEq, decide_eq_true_eq]
  exact ⟨fun ⟨h1, h2, h3, h4⟩ => Ctl.ext_ h1 h2 h3 h4, fun h => by subst h; exact ⟨rfl, rfl, rfl, rfl⟩⟩

theorem run_ctlEq (d : Nat) (a b : Ctl) (w : World) : (Op.equalIn (d + 2) 43 a.val b.val).run Try.prog w = .ok (ctlEq a b) w := by
  obtain ⟨s, n, p, e⟩ := a
  obtain ⟨s', n', p', e'⟩ := b
  rw [run_equalIn_agg _ _ _ _ _ undCtl stoodCtl]
  simp [Op.eqFields, go_sem, intEqlC, ctlEq]
  by_cases h : s = s' <;> by_cases h1 : n = n' <;> by_cases h2 : p = p' <;> by_cases h3 : e = e' <;> simp [h, h1, h2, h3]

@[go_sem high] theorem eqlCtl (w : World) (s n p e s' n' p' e' : Int) : (binOp .eql 43 (.agg #[.int .i64 s, .int .i64 n, .int .i64 p, .int .i64 e]) (.agg #[.int .i64 s', .int .i64 n', .int .i64 p', .int .i64 e'])).run Try.prog w = .ok (.bool (ctlEq ⟨s, n, p, e⟩ ⟨s', n', p', e'⟩)) w := by
  rw [run_eql_struct]
  have h := run_ctlEq 9998 ⟨s, n, p, e⟩ ⟨s', n', p', e'⟩ w
  rw [show (10000 : Nat) = 9998 + 2 from rfl, h]
  rfl
@[go_sem high] theorem neqCtl (w : World) (s n p e s' n' p' e' : Int) : (binOp .neq 43 (.agg #[.int .i64 s, .int .i64 n, .int .i64 p, .int .i64 e]) (.agg #[.int .i64 s', .int .i64 n', .int .i64 p', .int .i64 e'])).run Try.prog w = .ok (.bool !(ctlEq ⟨s, n, p, e⟩ ⟨s', n', p', e'⟩)) w := by
  rw [run_neq_struct]
  have h := run_ctlEq 9998 ⟨s, n, p, e⟩ ⟨s', n', p', e'⟩ w
  rw [show (10000 : Nat) = 9998 + 2 from rfl, h]
  rfl


theorem scs_eq {B p b g : Nat} {q : Option Nat} {f e : Int} {S T : Sco} {w : World} (h : Scs B w p b g q f e S) (hS : S = T) : Scs B w p b g q f e T := hS ▸ h

def shown0 : Sco := ⟨[⟨⟨2, 1, -1, 0⟩, (128, 0)⟩, ⟨⟨0, 0, -1, 0⟩, (0, 0)⟩], [(128, 64)]⟩
def shown1 : Sco := ⟨[⟨⟨2, 1, -1, 0⟩, (128, 0)⟩, ⟨⟨1, 0, -1, 0⟩, (128, 16)⟩], [(144, 48)]⟩
theorem shown0_eq : newS ⟨2, 1, 0, 64⟩ = shown0 := by kernel_rfl
theorem shown1_eq : createS 10 shown0 = ((1, 0), shown1) := by kernel_rfl
theorem shown2_eq : createS 8 shown1 = ((0, 13), shown1) := by kernel_rfl
theorem shown3_eq : extS 1 shown1 = ((128, 16), 0) := by kernel_rfl

set_option maxHeartbeats 2000000 in
theorem shown_any (w : World) : Calls Try.prog 10 #[] w fun e w' => e = .returned (.bool true) ∧ Below w.heap.size w w' := by
  go_enter Try.func10, Try.ntmps10
  go_wp2_with fail
  refine (snew_any ⟨2, 1, 0, 64⟩ _ (by unfold PlnOk; decide)).mono ?_
  rintro r w1 ⟨p, b, g, q, rfl, hS, hB⟩
  have HS1 := Lib.hid (scs_eq hS shown0_eq)
  have HB1 := Lib.hid hB
  clear hS hB
  go_wp2_with fail
  refine (screate_any _ p b g q _ _ shown0 10 _ HS1.out).mono ?_
  rintro r w2 ⟨rfl, hS, hk⟩
  rw [shown1_eq] at hS ⊢
  have HS2 := Lib.hid hS
  have HB2 := Lib.hid (HS1.out.keep_below HB1.out hk)
  clear hS hk
  go_wp2_with fail
  refine (screate_any _ p b g q _ _ shown1 8 _ HS2.out).mono ?_
  rintro r w3 ⟨rfl, hS, hk⟩
  rw [shown2_eq] at hS ⊢
  have HS3 := Lib.hid hS
  have HB3 := Lib.hid (HS2.out.keep_below HB2.out hk)
  clear hS hk
  go_wp2_with fail
  refine (ext_any _ p b g q _ _ shown1 1 _ HS3.out).mono ?_
  rintro r w4 ⟨rfl, hb⟩
  rw [shown3_eq]
  have hB4 := below_only HB3.out hb
  clear hb
  go_wp2_with fail
  go_ret
  exact ⟨rfl, hB4.alloc hB4.size _⟩

end Go.Proofs.Ytcicpfhbpcdjcaa
