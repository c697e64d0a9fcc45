/- The walks of the reference for control words: Right, Pack, Unpack, Enter, Leave, Open, Hold, Fit. The walks of the reference for control words: Enter, Leave, Open, Hold. The law's shown; the reference's Unpack and Fit; == between control words; how such a thing is opened. The walks of the reference's Unpack and Fit for control words. Words of control words, by name. -/
import Derived.Test.YtbijaloeilnjoaaGreatMC
import Derived.Test.YtbijaloeilnjoaaGreatMA
import Derived.Deep.RegionHeld3
import Derived.Lib.SmallJoins
namespace Go.Proofs.YtbijaloeilnjoaaGreat
open Go.RowKit

theorem right_eq2 {s n p e : Int} (he : 0 ≤ e ∧ e ≤ 16777215) : rightB ⟨s, n, p, e⟩ = (if s = 0 ∨ s = 1 then decide (n = 0 ∧ p = -1) else if s = 2 then decide (1 ≤ n ∧ n ≤ 7 ∧ -1 ≤ p ∧ p ≤ 7) else if s = 3 then decide (n = 0 ∧ -1 ≤ p ∧ p ≤ 7) else false) := by
 rw [right_eq he]
 rcases state_cases s with rfl | rfl | rfl | rfl | h
 case inr.inr.inr.inr =>
  rw [kindOf_other h]
  simp at h
  simp [h]
 all_goals simp [kindOf]

set_option maxRecDepth 100000 in
set_option maxHeartbeats 2000000 in
theorem rright_any (s n p e : Int) (w : World) :
  Calls Tryz.prog 60 #[.agg #[.int .i64 s, .int .i64 n, .int .i64 p, .int .i64 e]] w fun r w' => r = .returned (.bool (rightB ⟨s, n, p, e⟩)) ∧ Below w.heap.size w w' := by
 by_cases he0 : e < 0
 ·rw [rightB_f (fun h => by have := h.1; simp only at this; omega)]
  have hd : decide (e < 0) = true := decide_eq_true he0
  go_enter Tryz.func60, Tryz.ntmps60
  go_wp2
  go_ret
  exact ⟨rfl, by go_grown⟩
 have hd0 : decide (e < 0) = false := decide_eq_false he0
 by_cases he1 : 16777215 < e
 ·rw [rightB_f (fun h => by have := h.2.1; simp only at this; omega)]
  have hd1 : decide (16777215 < e) = true := decide_eq_true he1
  go_enter Tryz.func60, Tryz.ntmps60
  go_wp2
  go_ret
  exact ⟨rfl, by go_grown⟩
 have hd1 : decide (16777215 < e) = false := decide_eq_false he1
 rw [right_eq2 (by omega)]
 clear he0 he1
 by_cases hp0 : -1 ≤ p
 ·have dp0 : decide (-1 ≤ p) = true := decide_eq_true hp0
  rcases state_cases s with rfl | rfl | rfl | rfl | h
  ·by_cases hn : n = 0
   ·subst hn
    rw [show (if (0 : Int) = 0 ∨ (0 : Int) = 1 then _ else _ : Bool) = (p == -1) by simp; rfl]
    clear hp0
    go_enter Tryz.func60, Tryz.ntmps60
    go_wp2
    go_ret
    exact ⟨rfl, by go_grown⟩
   ·have hn' : (n == 0) = false := by simpa using hn
    rw [show (if (0 : Int) = 0 ∨ (0 : Int) = 1 then _ else _ : Bool) = false by simp [hn]]
    clear hn hp0
    go_enter Tryz.func60, Tryz.ntmps60
    go_wp2
    go_ret
    exact ⟨rfl, by go_grown⟩
  ·by_cases hn : n = 0
   ·subst hn
    rw [show (if (1 : Int) = 0 ∨ (1 : Int) = 1 then _ else _ : Bool) = (p == -1) by simp; rfl]
    clear hp0
    go_enter Tryz.func60, Tryz.ntmps60
    go_wp2
    go_ret
    exact ⟨rfl, by go_grown⟩
   ·have hn' : (n == 0) = false := by simpa using hn
    rw [show (if (1 : Int) = 0 ∨ (1 : Int) = 1 then _ else _ : Bool) = false by simp [hn]]
    clear hn hp0
    go_enter Tryz.func60, Tryz.ntmps60
    go_wp2
    go_ret
    exact ⟨rfl, by go_grown⟩
  ·by_cases h1 : 1 ≤ n
   ·by_cases h2 : n ≤ 7
    ·rw [show (if (2 : Int) = 0 ∨ (2 : Int) = 1 then _ else _ : Bool) = decide (p < 8) by simp [h1, h2, hp0]; omega]
     have dn1 : decide (1 ≤ n) = true := decide_eq_true h1
     have dn2 : decide (n ≤ 7) = true := decide_eq_true h2
     clear h1 h2 hp0
     go_enter Tryz.func60, Tryz.ntmps60
     go_wp2
     go_ret
     exact ⟨rfl, by go_grown⟩
    ·rw [show (if (2 : Int) = 0 ∨ (2 : Int) = 1 then _ else _ : Bool) = false by simp [h2]]
     have dn1 : decide (1 ≤ n) = true := decide_eq_true h1
     have dn2 : decide (n ≤ 7) = false := decide_eq_false h2
     clear h1 h2 hp0
     go_enter Tryz.func60, Tryz.ntmps60
     go_wp2
     go_ret
     exact ⟨rfl, by go_grown⟩
   ·rw [show (if (2 : Int) = 0 ∨ (2 : Int) = 1 then _ else _ : Bool) = false by simp [h1]]
    have dn1 : decide (1 ≤ n) = false := decide_eq_false h1
    clear h1 hp0
    go_enter Tryz.func60, Tryz.ntmps60
    go_wp2
    go_ret
    exact ⟨rfl, by go_grown⟩
  ·by_cases hn : n = 0
   ·subst hn
    rw [show (if (3 : Int) = 0 ∨ (3 : Int) = 1 then _ else _ : Bool) = decide (p < 8) by simp [hp0]; omega]
    clear hp0
    go_enter Tryz.func60, Tryz.ntmps60
    go_wp2
    go_ret
    exact ⟨rfl, by go_grown⟩
   ·have hn' : (n == 0) = false := by simpa using hn
    rw [show (if (3 : Int) = 0 ∨ (3 : Int) = 1 then _ else _ : Bool) = false by simp [hn]]
    clear hn hp0
    go_enter Tryz.func60, Tryz.ntmps60
    go_wp2
    go_ret
    exact ⟨rfl, by go_grown⟩
  ·obtain ⟨h0, h1, h2, h3⟩ := h
   rw [show (if s = 0 ∨ s = 1 then _ else _ : Bool) = false by simp at h0 h1 h2 h3; simp [h0, h1, h2, h3]]
   clear hp0
   go_enter Tryz.func60, Tryz.ntmps60
   go_wp2
   go_ret
   exact ⟨rfl, by go_grown⟩
 ·have dp0 : decide (-1 ≤ p) = false := decide_eq_false hp0
  rcases state_cases s with rfl | rfl | rfl | rfl | h
  ·by_cases hn : n = 0
   ·subst hn
    rw [show (if (0 : Int) = 0 ∨ (0 : Int) = 1 then _ else _ : Bool) = (p == -1) by simp; rfl]
    clear hp0
    go_enter Tryz.func60, Tryz.ntmps60
    go_wp2
    go_ret
    exact ⟨rfl, by go_grown⟩
   ·have hn' : (n == 0) = false := by simpa using hn
    rw [show (if (0 : Int) = 0 ∨ (0 : Int) = 1 then _ else _ : Bool) = false by simp [hn]]
    clear hn hp0
    go_enter Tryz.func60, Tryz.ntmps60
    go_wp2
    go_ret
    exact ⟨rfl, by go_grown⟩
  ·by_cases hn : n = 0
   ·subst hn
    rw [show (if (1 : Int) = 0 ∨ (1 : Int) = 1 then _ else _ : Bool) = (p == -1) by simp; rfl]
    clear hp0
    go_enter Tryz.func60, Tryz.ntmps60
    go_wp2
    go_ret
    exact ⟨rfl, by go_grown⟩
   ·have hn' : (n == 0) = false := by simpa using hn
    rw [show (if (1 : Int) = 0 ∨ (1 : Int) = 1 then _ else _ : Bool) = false by simp [hn]]
    clear hn hp0
    go_enter Tryz.func60, Tryz.ntmps60
    go_wp2
    go_ret
    exact ⟨rfl, by go_grown⟩
  ·by_cases h1 : 1 ≤ n
   ·by_cases h2 : n ≤ 7
    ·rw [show (if (2 : Int) = 0 ∨ (2 : Int) = 1 then _ else _ : Bool) = false by simp [hp0]]
     have dn1 : decide (1 ≤ n) = true := decide_eq_true h1
     have dn2 : decide (n ≤ 7) = true := decide_eq_true h2
     clear h1 h2 hp0
     go_enter Tryz.func60, Tryz.ntmps60
     go_wp2
     go_ret
     exact ⟨rfl, by go_grown⟩
    ·rw [show (if (2 : Int) = 0 ∨ (2 : Int) = 1 then _ else _ : Bool) = false by simp [h2]]
     have dn1 : decide (1 ≤ n) = true := decide_eq_true h1
     have dn2 : decide (n ≤ 7) = false := decide_eq_false h2
     clear h1 h2 hp0
     go_enter Tryz.func60, Tryz.ntmps60
     go_wp2
     go_ret
     exact ⟨rfl, by go_grown⟩
   ·rw [show (if (2 : Int) = 0 ∨ (2 : Int) = 1 then _ else _ : Bool) = false by simp [h1]]
    have dn1 : decide (1 ≤ n) = false := decide_eq_false h1
    clear h1 hp0
    go_enter Tryz.func60, Tryz.ntmps60
    go_wp2
    go_ret
    exact ⟨rfl, by go_grown⟩
  ·by_cases hn : n = 0
   ·subst hn
    rw [show (if (3 : Int) = 0 ∨ (3 : Int) = 1 then _ else _ : Bool) = false by simp [hp0]]
    clear hp0
    go_enter Tryz.func60, Tryz.ntmps60
    go_wp2
    go_ret
    exact ⟨rfl, by go_grown⟩
   ·have hn' : (n == 0) = false := by simpa using hn
    rw [show (if (3 : Int) = 0 ∨ (3 : Int) = 1 then _ else _ : Bool) = false by simp [hn]]
    clear hn hp0
    go_enter Tryz.func60, Tryz.ntmps60
    go_wp2
    go_ret
    exact ⟨rfl, by go_grown⟩
  ·obtain ⟨h0, h1, h2, h3⟩ := h
   rw [show (if s = 0 ∨ s = 1 then _ else _ : Bool) = false by simp at h0 h1 h2 h3; simp [h0, h1, h2, h3]]
   clear hp0
   go_enter Tryz.func60, Tryz.ntmps60
   go_wp2
   go_ret
   exact ⟨rfl, by go_grown⟩

set_option maxRecDepth 100000 in
set_option maxHeartbeats 400000 in
theorem rpack_any (s n p e : Int) (w : World) :
  Calls Tryz.prog 29 #[.agg #[.int .i64 s, .int .i64 n, .int .i64 p, .int .i64 e]] w fun r w' => r = .returned (.tuple #[.int .u64 (pack ⟨s, n, p, e⟩).1, .int .i64 (pack ⟨s, n, p, e⟩).2]) ∧ Below w.heap.size w w' := by
 have R := row_new w #[.int .i64 s, .int .i64 n, .int .i64 p, .int .i64 e] 61
 have HR := Lib.hid R
 clear R
 by_cases hr : Right ⟨s, n, p, e⟩
 ·obtain ⟨h00, h01, h10, h11, h20, h21, h30, h31⟩ := right_bd hr
  simp only at h00 h01 h10 h11 h20 h21 h30 h31
  rw [show pack ⟨s, n, p, e⟩ = (s + 4 * n + 1024 * (p + 1) + 262144 * e, 0) by simp [pack, hr, word]]
  have Hr := Lib.hid (rightB_t hr)
  clear hr
  go_enter Tryz.func29, Tryz.ntmps29
  go_wp2_with (go_at_call 60; refine (rright_any _ _ _ _ _).mono ?_; rintro r w1 ⟨rfl, hb⟩; rw [Hr.out]; have R := row_below HR.out hb; obtain ⟨q0, q1, q2, q3, _, _, _, _⟩ := box4 R; clear R)
  go_returns
  exact ⟨rfl, below_only (by go_grown) hb⟩
 ·rw [show pack ⟨s, n, p, e⟩ = (0, 1) by simp [pack, hr]]
  have Hr := Lib.hid (rightB_f hr)
  clear hr
  go_enter Tryz.func29, Tryz.ntmps29
  go_wp2_with (go_at_call 60; refine (rright_any _ _ _ _ _).mono ?_; rintro r w1 ⟨rfl, hb⟩; rw [Hr.out]; have R := row_below HR.out hb; obtain ⟨q0, q1, q2, q3, _, _, _, _⟩ := box4 R; clear R)
  go_returns
  exact ⟨rfl, below_only (by go_grown) hb⟩

end Go.Proofs.YtbijaloeilnjoaaGreat

namespace Go.Proofs.YtbijaloeilnjoaaGreat
open Go.RowKit


end Go.Proofs.YtbijaloeilnjoaaGreat

namespace Go.Proofs.YtbijaloeilnjoaaGreat
open Go.RowKit

@[go_sem] theorem eqgCtl : Tryz.prog.eqGuardType Tryz.prog.depth 61 = false := by kernel_rfl
theorem stoodCtl : Tryz.prog.stoodInHeld 61 = false := by kernel_rfl
theorem undCtl : Tryz.prog.underlying 61 = some (.struct (Tryz.prog.fieldsOf 61)) := by kernel_rfl
theorem intEqlC (d : Nat) (s s' : Int) (w : World) : (Op.equalIn (d + 1) 3 (.int .i64 s) (.int .i64 s')).run Tryz.prog w = .ok (s == s') w := run_equalIn_int w d _ _ _ _ _ Tryz.underlying3

def ctlEq (a b : Ctl) : Bool := decide (a.st = b.st ∧ a.n = b.n ∧ a.p = b.p ∧ a.ep = b.ep)
@[simp, go_sem] theorem ctlEq_self (a : Ctl) : ctlEq a a = true := by simp [ctlEq]

theorem run_ctlEq (d : Nat) (a b : Ctl) (w : World) : (Op.equalIn (d + 2) 61 a.val b.val).run Tryz.prog w = .ok (ctlEq a b) w := by
 obtain ⟨s, n, p, e⟩ := a
 obtain ⟨s', n', p', e'⟩ := b
 rw [run_equalIn_agg _ _ _ _ _ undCtl stoodCtl]
 simp [Op.eqFields, go_sem, intEqlC, ctlEq]
 by_cases h : s = s' <;> by_cases h1 : n = n' <;> by_cases h2 : p = p' <;> by_cases h3 : e = e' <;> simp [h, h1, h2, h3]

@[go_sem high] theorem eqlCtl (w : World) (s n p e s' n' p' e' : Int) : (binOp .eql 61 (.agg #[.int .i64 s, .int .i64 n, .int .i64 p, .int .i64 e]) (.agg #[.int .i64 s', .int .i64 n', .int .i64 p', .int .i64 e'])).run Tryz.prog w = .ok (.bool (ctlEq ⟨s, n, p, e⟩ ⟨s', n', p', e'⟩)) w := by
 rw [run_eql_struct]
 have h := run_ctlEq 9998 ⟨s, n, p, e⟩ ⟨s', n', p', e'⟩ w
 rw [show (10000 : Nat) = 9998 + 2 from rfl, h]
 rfl
@[go_sem high] theorem neqCtl (w : World) (s n p e s' n' p' e' : Int) : (binOp .neq 61 (.agg #[.int .i64 s, .int .i64 n, .int .i64 p, .int .i64 e]) (.agg #[.int .i64 s', .int .i64 n', .int .i64 p', .int .i64 e'])).run Tryz.prog w = .ok (.bool !(ctlEq ⟨s, n, p, e⟩ ⟨s', n', p', e'⟩)) w := by
 rw [run_neq_struct]
 have h := run_ctlEq 9998 ⟨s, n, p, e⟩ ⟨s', n', p', e'⟩ w
 rw [show (10000 : Nat) = 9998 + 2 from rfl, h]
 rfl


end Go.Proofs.YtbijaloeilnjoaaGreat

namespace Go.Proofs.YtbijaloeilnjoaaGreat
open Go.RowKit

def fit (c : Ctl) : Ctl := ⟨c.st % 4, if c.st % 4 = 2 then 1 + c.n % 8 % 7 else 0, if 2 ≤ c.st % 4 then c.p % 16 % 9 - 1 else -1, c.ep % 16777216⟩

attribute [local go_sem] mask2 mask3 mask4 mask24

set_option maxRecDepth 100000 in
set_option maxHeartbeats 1000000 in
theorem runpack_any (x : Int) (w : World) (h0 : 0 ≤ x) (h1 : x ≤ 18446744073709551615) :
  Calls Tryz.prog 42 #[.int .u64 x] w fun r w' => r = .returned (.tuple #[(unpack x).1.val, .int .i64 (unpack x).2]) ∧ Below w.heap.size w w' := by
 have HT := Lib.hid (show told x = ⟨x % 4, x / 4 % 256, x / 1024 % 256 - 1, x / 262144 % 16777216⟩ from rfl)
 have R1 : ((w.alloc (.cells #[.int .i64 0, .int .i64 0, .int .i64 0, .int .i64 0] 61)).alloc (.cells #[.int .i64 (x % 4), .int .i64 (x / 4 % 256), .int .i64 (x / 1024 % 256 - 1), .int .i64 (x / 262144 % 16777216)] 61)).heap[w.heap.size]? = some (.cells #[.int .i64 0, .int .i64 0, .int .i64 0, .int .i64 0] 61) := row_alloc (row_new w _ _)
 have R2 : ((w.alloc (.cells #[.int .i64 0, .int .i64 0, .int .i64 0, .int .i64 0] 61)).alloc (.cells #[.int .i64 (x % 4), .int .i64 (x / 4 % 256), .int .i64 (x / 1024 % 256 - 1), .int .i64 (x / 262144 % 16777216)] 61)).heap[w.heap.size + 1]? = some (.cells #[.int .i64 (x % 4), .int .i64 (x / 4 % 256), .int .i64 (x / 1024 % 256 - 1), .int .i64 (x / 262144 % 16777216)] 61) := heap_at (by simp)
 have B0 : Below w.heap.size w ((w.alloc (.cells #[.int .i64 0, .int .i64 0, .int .i64 0, .int .i64 0] 61)).alloc (.cells #[.int .i64 (x % 4), .int .i64 (x / 4 % 256), .int .i64 (x / 1024 % 256 - 1), .int .i64 (x / 262144 % 16777216)] 61)) := by go_grown
 have HR1 := Lib.hid R1
 have HR2 := Lib.hid R2
 clear R1 R2
 have e0 : 0 ≤ x % 4 := by omega
 have e1 : 0 ≤ x / 4 := by omega
 have e2 : 0 ≤ x / 1024 := by omega
 have e3 : 0 ≤ x / 262144 := by omega
 have hw : Right (told x) → ((word (told x) != x) = !decide (x < 4398046511104)) := fun hr => by
  rw [Bool.eq_iff_iff]
  simp
  constructor
  ·intro hne
   rcases Int.lt_or_le x 4398046511104 with h | h
   ·exact absurd (word_told h0 h) hne
   ·exact h
  ·intro h e
   have := (right_word hr).2.1
   omega
 by_cases hr : Right (told x)
 ·have hp : pack (told x) = (word (told x), 0) := by simp [pack, hr]
  by_cases hx : x < 4398046511104
  ·rw [show unpack x = (told x, 0) by simp [unpack, hr, hx]]
   have hq : (word (told x) != x) = false := by rw [hw hr]; simp [hx]
   clear hr hw hx
   rw [HT.out] at hp hq ⊢
   have Hp := Lib.hid hp
   clear hp
   generalize word _ = W at Hp hq
   go_enter Tryz.func42, Tryz.ntmps42
   go_wp2_with fail
   refine (rpack_any _ _ _ _ _).mono ?_
   rintro r w1 ⟨rfl, hb⟩
   rw [Hp.out]
   have B1 := below_only B0 hb
   have R1 := row_below HR1.out hb
   have R2 := row_below HR2.out hb
   obtain ⟨r0, r1, r2, r3, f0, f1, f2, f3⟩ := box4 R1
   obtain ⟨q0, q1, q2, q3, _, _, _, _⟩ := box4 R2
   clear R1 R2 hb HR1 HR2
   go_wp2
   refine bodyPost_ret (by simp [results, Tryz.results42, go_sem, r0, r1, r2, r3]; rfl) rfl ?_
   exact ⟨rfl, by go_grown⟩
  ·rw [show unpack x = (noCtl, 1) by simp [unpack, hx]]
   have hq : (word (told x) != x) = true := by rw [hw hr]; simp [hx]
   clear hr hw hx
   rw [HT.out] at hp hq
   have Hp := Lib.hid hp
   clear hp
   generalize word _ = W at Hp hq
   go_enter Tryz.func42, Tryz.ntmps42
   go_wp2_with fail
   refine (rpack_any _ _ _ _ _).mono ?_
   rintro r w1 ⟨rfl, hb⟩
   rw [Hp.out]
   have B1 := below_only B0 hb
   have R1 := row_below HR1.out hb
   have R2 := row_below HR2.out hb
   obtain ⟨r0, r1, r2, r3, f0, f1, f2, f3⟩ := box4 R1
   obtain ⟨q0, q1, q2, q3, _, _, _, _⟩ := box4 R2
   clear R1 R2 hb HR1 HR2
   go_wp2
   refine bodyPost_ret (by simp [results, Tryz.results42, go_sem, r0, r1, r2, r3]; rfl) rfl ?_
   exact ⟨rfl, by go_grown⟩
 ·rw [show unpack x = (noCtl, 1) by simp [unpack, hr]]
  have hp : pack (told x) = (0, 1) := by simp [pack, hr]
  clear hr hw
  rw [HT.out] at hp
  have Hp := Lib.hid hp
  clear hp
  go_enter Tryz.func42, Tryz.ntmps42
  go_wp2_with fail
  refine (rpack_any _ _ _ _ _).mono ?_
  rintro r w1 ⟨rfl, hb⟩
  rw [Hp.out]
  have B1 := below_only B0 hb
  have R1 := row_below HR1.out hb
  have R2 := row_below HR2.out hb
  obtain ⟨r0, r1, r2, r3, f0, f1, f2, f3⟩ := box4 R1
  obtain ⟨q0, q1, q2, q3, _, _, _, _⟩ := box4 R2
  clear R1 R2 hb HR1 HR2
  go_wp2
  refine bodyPost_ret (by simp [results, Tryz.results42, go_sem, r0, r1, r2, r3]; rfl) rfl ?_
  exact ⟨rfl, by go_grown⟩

end Go.Proofs.YtbijaloeilnjoaaGreat

namespace Go.Proofs.YtbijaloeilnjoaaGreat
open Go.RowKit

theorem pack_as {s n p e v c : Int} (H : Hid (pack ⟨s, n, p, e⟩ = (v, c))) (w : World) : Calls Tryz.prog 106 #[.agg #[.int .i64 s, .int .i64 n, .int .i64 p, .int .i64 e]] w fun r w' => r = .returned (.tuple #[.int .u64 v, .int .i64 c]) ∧ Below w.heap.size w w' := by
 have h := pack_any s n p e w
 rw [H.out] at h
 exact h
theorem rpack_as {s n p e v c : Int} (H : Hid (pack ⟨s, n, p, e⟩ = (v, c))) (w : World) : Calls Tryz.prog 29 #[.agg #[.int .i64 s, .int .i64 n, .int .i64 p, .int .i64 e]] w fun r w' => r = .returned (.tuple #[.int .u64 v, .int .i64 c]) ∧ Below w.heap.size w w' := by
 have h := rpack_any s n p e w
 rw [H.out] at h
 exact h
theorem unpack_as {x s n p e c : Int} (H : Hid (unpack x = (⟨s, n, p, e⟩, c))) (h0 : 0 ≤ x) (h1 : x ≤ 18446744073709551615) (w : World) : Calls Tryz.prog 57 #[.int .u64 x] w fun r w' => r = .returned (.tuple #[.agg #[.int .i64 s, .int .i64 n, .int .i64 p, .int .i64 e], .int .i64 c]) ∧ Below w.heap.size w w' := by
 have h := unpack_any x w h0 h1
 rw [H.out] at h
 exact h
theorem runpack_as {x s n p e c : Int} (H : Hid (unpack x = (⟨s, n, p, e⟩, c))) (h0 : 0 ≤ x) (h1 : x ≤ 18446744073709551615) (w : World) : Calls Tryz.prog 42 #[.int .u64 x] w fun r w' => r = .returned (.tuple #[.agg #[.int .i64 s, .int .i64 n, .int .i64 p, .int .i64 e], .int .i64 c]) ∧ Below w.heap.size w w' := by
 have h := runpack_any x w h0 h1
 rw [H.out] at h
 exact h

end Go.Proofs.YtbijaloeilnjoaaGreat
