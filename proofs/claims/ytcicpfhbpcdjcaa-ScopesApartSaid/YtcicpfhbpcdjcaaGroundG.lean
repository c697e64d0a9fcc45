/- The walk of (*Ground).Give where it goes on. -/
import Derived.Test.YtcicpfhbpcdjcaaGroundF
namespace Go.Proofs.Ytcicpfhbpcdjcaa
open Go.RowKit

theorem give_ok {f e a n : Int} (h : giveBad f e a n = false) : 1 ≤ n ∧ n % 8 = 0 ∧ a % 8 = 0 ∧ f ≤ a ∧ a ≤ e - 1 ∧ n ≤ e - a := by
  simp only [giveBad, Bool.or_eq_false_iff, decide_eq_false_iff_not] at h
  omega

set_option maxRecDepth 100000 in
set_option maxHeartbeats 2000000 in
theorem give_meet (B p : Nat) (f e : Int) (l : List Ext) (q : Option Nat) (a n : Int) (w : World) (h : Gr B w p f e l q) (hn : giveBad f e a n = false) (hm : giveMeets a n l = true) :
    Calls Try.prog 47 #[.pointer (some ⟨p, 0, none⟩), .int .i64 a, .int .i64 n] w fun r w' => r = .returned (.int .i64 1) ∧ Below w.heap.size w w' := by
  obtain ⟨h0, h8, a8, g0, g1, g2⟩ := give_ok hn
  have hG := Lib.hid h
  have hsz := h.size
  have hpw := h.lt.1
  have hBp := h.low
  have f0 := h.f0
  have e1 := h.e1
  have hcan := Lib.hid h.can
  obtain ⟨A, c, h1, h2, h3⟩ := h.mem
  have hc := Cells.of_own h2
  have hd1 : decide (n < 1) = false := decide_eq_false (by omega)
  have hd8 : ((n % 8 : Int) != 0) = false := by rw [h8]; rfl
  have ha8 : ((a.tmod 8 : Int) != 0) = false := by rw [tmod8_ne]; simp [a8]
  have ha8' : ((a % 8 : Int) != 0) = false := by rw [a8]; rfl
  have hin : inB a f (e - 1) = true := inB_t ⟨g0, g1⟩
  have hd9 : decide (e - a < n) = false := decide_eq_false (by omega)
  have hbd : ∀ x ∈ l, -9223372036854775808 ≤ x.1 + x.2 ∧ x.1 + x.2 ≤ 9223372036854775807 := by
    intro x hx
    have := h.can.mem hx
    omega
  have Hbd := Lib.hid hbd
  have H8 := Lib.hid h8
  have HA8 := Lib.hid a8
  have H1 := Lib.hid h1
  have H2 := Lib.hid h2
  have H3 := Lib.hid h3
  obtain ⟨b0, b1, b2, _, _, _⟩ := box3 h1
  clear h h1 h2 h3 h8 a8 hn hbd
  cases hi : giveAt a l with
  | none =>
    exfalso
    have : giveIdx a l = l.length := by rw [giveIdx, hi]; rfl
    rw [giveMeets, this] at hm
    simp at hm
  | some i =>
    obtain ⟨x, hx, hil, hpx, _⟩ := findIdx_some hi
    have hpx' : a < x.1 + x.2 := by simpa using hpx
    have hxm := hcan.out.mem (List.mem_of_getElem? hx)
    obtain ⟨b, off, hA, _, hcx⟩ := exts_at hc (by omega)
    subst hA
    have hidx : giveIdx a l = i := by rw [giveIdx, hi]; rfl
    have Hx := Lib.hid hx
    have Hi := Lib.hid hi
    have Hidx := Lib.hid hidx
    have a1 : 0 ≤ (i : Int) := by omega
    have a2 : (i : Int) < (l.length : Int) := by omega
    have a3 : decide ((i : Int) < (l.length : Int)) = true := decide_eq_true a2
    have a4 : i < l.length := hil
    have a5 : decide (i < l.length) = true := decide_eq_true hil
    have a6 : ¬ (i : Int) < 0 := by omega
    have a7 : decide ((i : Int) < 0) = false := decide_eq_false a6
    have s1 : -9223372036854775808 ≤ a + n := by omega
    have s2 : a + n ≤ 9223372036854775807 := by omega

    have hlt : x.1 < a + n := by
      rw [giveMeets, hidx, hx] at hm
      simpa using hm
    have hltd : decide (x.1 < a + n) = true := decide_eq_true hlt
    clear hi hx hidx hm hpx hcx
    go_enter Try.func47, Try.ntmps47
    go_wp2
    go_quiet ((go_at_call 41; exact Calls.quiet_of_same (within_any _ _ _ _)))
    go_wp2_with fail
    refine (find_give (some ⟨b, off, none⟩) c l w.heap.size a _ (by omega) (Cells.drewN (Cells.alloc hc _) _) (box1 (heap_drewN (row_new _ _ _))).1 Hbd.out).mono ?_
    rintro r w1 ⟨rfl, hb⟩
    rw [Hi.out]
    simp only [idxI]
    have Hp1 := Lib.hid (row_below (heap_drewN (row_alloc H1.out)) hb)
    have Hn1 := Lib.hid (row_below (heap_drewN (row_new w #[.int .i64 a] 3)) hb)
    have B1 : Below w.heap.size w w1 := below_only (below_drewN (by go_grown) _) hb
    have hc1 := Cells.below (Cells.drewN (Cells.alloc hc _) _) hb
    obtain ⟨_, _, b2, _, _, b2f⟩ := box3 Hp1.out
    obtain ⟨n0, _⟩ := box1 Hn1.out
    clear hb hc

    obtain ⟨b', off', hA', _, hcx1⟩ := exts_at hc1 (by omega)
    injection hA' with hA'
    injection hA' with hb' ho'
    subst hb' ho'
    obtain ⟨x0, x1⟩ := hcx1 i x Hx.out
    clear hcx1 hc1
    go_wp2
    go_quiet (fail)
    go_wp2
    go_ret
    exact ⟨rfl, below_drewN B1 _⟩

end Go.Proofs.Ytcicpfhbpcdjcaa
