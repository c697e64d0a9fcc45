/- The walks of the closures of begin's refuse. -/
import Derived.Test.YtaneokplagdcfaaBeginB
namespace Go.Proofs.Ytaneokplagdcfaa
open Go.RowKit

/-- a call as its thread alone knows it, in memory -/
structure Ask (w : World) (g : Nat) (P : Pln) (A : Option Addr) (k : Nat) (l : List Ent) (c : Cal) (h v : Int) : Prop where
  row : w.heap[g]? = some (.cells #[.int .i64 P.s, .int .i64 P.t, .int .i64 P.i, .int .i64 P.h, .slice A l.length k, .int .u8 c.op, .int .u8 c.r, .int .u8 c.h, .int .u8 c.v, .int .i64 c.a, .int .i64 c.b, .int .i64 c.c, .int .u64 h, .int .u64 v] 71 (0, 0))
  ents : Ents w A l
  len : l.length ≤ 1048576
  cap : l.length ≤ k
  s0 : 1 ≤ P.s
  s1 : P.s ≤ 8
  cal : CalOk c
  h0 : 0 ≤ h
  h1 : h ≤ 18446744073709551615
  v0 : 0 ≤ v
  v1 : v ≤ 18446744073709551615
section
variable {w w' : World} {g : Nat} {P : Pln} {A : Option Addr} {k : Nat} {l : List Ent} {c : Cal} {h v : Int}
theorem Ask.below (a : Ask w g P A k l c h v) (hb : Below w.heap.size w w') : Ask w' g P A k l c h v := { a with row := row_below a.row hb, ents := Cells.below a.ents hb }
theorem Ask.cells (a : Ask w g P A k l c h v) : (w.cell? ⟨g, 0, none⟩ = some (.int .i64 P.s) ∧ w.cell? ⟨g, 1, none⟩ = some (.int .i64 P.t) ∧ w.cell? ⟨g, 2, none⟩ = some (.int .i64 P.i) ∧ w.cell? ⟨g, 3, none⟩ = some (.int .i64 P.h) ∧ w.cell? ⟨g, 4, none⟩ = some (.slice A l.length k)) ∧
    (w.cell? ⟨g, 5, none⟩ = some (.int .u8 c.op) ∧ w.cell? ⟨g, 6, none⟩ = some (.int .u8 c.r) ∧ w.cell? ⟨g, 7, none⟩ = some (.int .u8 c.h) ∧ w.cell? ⟨g, 8, none⟩ = some (.int .u8 c.v) ∧ w.cell? ⟨g, 9, none⟩ = some (.int .i64 c.a) ∧ w.cell? ⟨g, 10, none⟩ = some (.int .i64 c.b) ∧ w.cell? ⟨g, 11, none⟩ = some (.int .i64 c.c)) ∧
    w.cell? ⟨g, 12, none⟩ = some (.int .u64 h) ∧ w.cell? ⟨g, 13, none⟩ = some (.int .u64 v) :=
  ⟨⟨by rw [row_cell a.row]; rfl, by rw [row_cell a.row]; rfl, by rw [row_cell a.row]; rfl, by rw [row_cell a.row]; rfl, by rw [row_cell a.row]; rfl⟩,
   ⟨by rw [row_cell a.row]; rfl, by rw [row_cell a.row]; rfl, by rw [row_cell a.row]; rfl, by rw [row_cell a.row]; rfl, by rw [row_cell a.row]; rfl, by rw [row_cell a.row]; rfl, by rw [row_cell a.row]; rfl⟩,
   by rw [row_cell a.row]; rfl, by rw [row_cell a.row]; rfl⟩
end

def scopeE (n a lo : Int) : Int := if inB a lo (n - 1) then 0 else 11
def reachE (l : List Ent) (a : Int) : Int := if reach l a then 0 else 20
def deepE (l : List Ent) : Int := if 6 ≤ l.length then 24 else 0
def mayE (b : Bool) : Int := if b then 0 else 1

section
variable (g : Nat) (P : Pln) (A : Option Addr) (k : Nat) (l : List Ent) (c : Cal) (h v : Int) (w : World)
set_option maxRecDepth 100000 in
set_option maxHeartbeats 1000000 in
theorem askScope_any (lo : Int) (a : Ask w g P A k l c h v) :
    Calls Try.prog 46 #[.int .i64 lo, .pointer (some ⟨g, 0, none⟩)] w fun r w' => r = .returned (.int .i64 (scopeE P.s c.a lo)) ∧ w' = w := by
  obtain ⟨⟨k0, k1, k2, k3, k4⟩, ⟨k5, k6, k7, k8, k9, k10, k11⟩, k12, k13⟩ := a.cells
  have s0 := a.s0
  have s1 := a.s1
  clear a k1 k2 k3 k4 k5 k6 k7 k8 k10 k11 k12 k13
  cases hi : inB c.a lo (P.s - 1) with
  | false =>
    rw [show scopeE P.s c.a lo = 11 by simp [scopeE, hi]]
    go_enter Try.func46, Try.ntmps46
    go_wp2_with (go_at_call 47; refine (within_any _ _ _ _).mono ?_; rintro r w1 ⟨rfl, rfl⟩; rw [hi])
    go_ret
    exact ⟨rfl, rfl⟩
  | true =>
    rw [show scopeE P.s c.a lo = 0 by simp [scopeE, hi]]
    go_enter Try.func46, Try.ntmps46
    go_wp2_with (go_at_call 47; refine (within_any _ _ _ _).mono ?_; rintro r w1 ⟨rfl, rfl⟩; rw [hi])
    go_ret
    exact ⟨rfl, rfl⟩

set_option maxRecDepth 100000 in
set_option maxHeartbeats 1000000 in
theorem askReach_any (a : Ask w g P A k l c h v) :
    Calls Try.prog 48 #[.pointer (some ⟨g, 0, none⟩)] w fun r w' => r = .returned (.int .i64 (reachE l c.a)) ∧ Below w.heap.size w w' := by
  obtain ⟨⟨k0, k1, k2, k3, k4⟩, ⟨k5, k6, k7, k8, k9, k10, k11⟩, k12, k13⟩ := a.cells
  have HR := Lib.hid (reach_any A k l c.a w (by have := a.len; omega) a.ents)
  clear a k0 k1 k2 k3 k5 k6 k7 k8 k10 k11 k12 k13
  cases hi : reach l c.a with
  | false =>
    rw [show reachE l c.a = 20 by simp [reachE, hi]]
    go_enter Try.func48, Try.ntmps48
    go_wp2_with (go_at_call 32; refine HR.out.mono ?_; rintro r w1 ⟨rfl, hb⟩; rw [hi])
    go_ret
    exact ⟨rfl, hb⟩
  | true =>
    rw [show reachE l c.a = 0 by simp [reachE, hi]]
    go_enter Try.func48, Try.ntmps48
    go_wp2_with (go_at_call 32; refine HR.out.mono ?_; rintro r w1 ⟨rfl, hb⟩; rw [hi])
    go_ret
    exact ⟨rfl, hb⟩

set_option maxRecDepth 100000 in
set_option maxHeartbeats 1000000 in
theorem askDeep_any (a : Ask w g P A k l c h v) :
    Calls Try.prog 49 #[.pointer (some ⟨g, 0, none⟩)] w fun r w' => r = .returned (.int .i64 (deepE l)) ∧ Below w.heap.size w w' := by
  obtain ⟨⟨k0, k1, k2, k3, k4⟩, ⟨k5, k6, k7, k8, k9, k10, k11⟩, k12, k13⟩ := a.cells
  have HR := Lib.hid (push_any A k l 0 false w a.len a.ents)
  have HE := Lib.hid (show (push l (0, false)).2 = deepE l by unfold push deepE; split <;> rfl)
  clear a k0 k1 k2 k3 k5 k6 k7 k8 k9 k10 k11 k12 k13
  go_enter Try.func49, Try.ntmps49
  go_wp2_with fail
  refine HR.out.mono ?_
  rintro r w1 ⟨v1, rfl, A1, c1, rfl, hc1, hcs1, -, hb⟩
  rw [HE.out]
  clear hcs1 hc1
  go_wp2_with fail
  go_ret
  exact ⟨rfl, hb⟩

set_option maxRecDepth 100000 in
set_option maxHeartbeats 1000000 in
theorem askMay_any (b : Bool) :
    Calls Try.prog 51 #[.bool b] w fun r w' => r = .returned (.int .i64 (mayE b)) ∧ w' = w := by
  cases b with
  | false =>
    go_enter Try.func51, Try.ntmps51
    go_wp2
    go_ret
    exact ⟨rfl, rfl⟩
  | true =>
    go_enter Try.func51, Try.ntmps51
    go_wp2
    go_ret
    exact ⟨rfl, rfl⟩

set_option maxRecDepth 100000 in
set_option maxHeartbeats 1000000 in
theorem askCheck_any (x : Int) (x0 : 0 ≤ x) (x1 : x ≤ 18446744073709551615) (a : Ask w g P A k l c h v) :
    Calls Try.prog 52 #[.int .u64 x, .pointer (some ⟨g, 0, none⟩)] w fun r w' => r = .returned (.int .i64 (checkR P.s l x).2) ∧ Below w.heap.size w w' := by
  obtain ⟨⟨k0, k1, k2, k3, k4⟩, ⟨k5, k6, k7, k8, k9, k10, k11⟩, k12, k13⟩ := a.cells
  have HR := Lib.hid (check_any P A k l x w a.len a.ents x0 x1)
  clear a k5 k6 k7 k8 k9 k10 k11 k12 k13
  go_enter Try.func52, Try.ntmps52
  go_wp2_with fail
  refine HR.out.mono ?_
  rintro r w1 ⟨rfl, hb⟩
  go_wp2_with fail
  go_ret
  exact ⟨rfl, below_only hb (by go_grown)⟩
end

end Go.Proofs.Ytaneokplagdcfaa
