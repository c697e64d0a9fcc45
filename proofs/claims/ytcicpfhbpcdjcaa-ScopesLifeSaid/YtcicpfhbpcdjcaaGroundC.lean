/- The walks of ground.New, (*Ground).Free and (*Ground).Carve. -/
import Derived.Test.YtcicpfhbpcdjcaaGroundB
import Derived.Test.YtcicpfhbpcdjcaaBits
import Derived.BigGuardPart
namespace Go.Proofs.Ytcicpfhbpcdjcaa
open Go.RowKit

/-- a ground in memory: where it lies, from where to where it is, what is free, where the row of what is free lies -/
structure Gr (B : Nat) (w : World) (p : Nat) (f e : Int) (l : List Ext) (q : Option Nat) : Prop where
  mem : ∃ A c, w.heap[p]? = some (.cells #[.int .i64 f, .int .i64 e, .slice A l.length c] 93 (0, 0)) ∧ w.ownsRow B 32 2 (.slice A l.length c) l.length (l.flatMap extCells) ∧ (Value.slice A l.length c).ownBlock = q
  ne : q ≠ some p
  low : B ≤ p
  can : Canon f e l
  f0 : 0 ≤ f
  fe : f ≤ e
  e1 : e ≤ 131072

theorem Gr.size {B p : Nat} {w : World} {f e : Int} {l : List Ext} {q : Option Nat} (h : Gr B w p f e l q) : l.length ≤ 131072 := by
  have := h.can.len h.fe
  have := h.f0
  have := h.e1
  omega
theorem Gr.below {B p : Nat} {w w' : World} {f e : Int} {l : List Ext} {q : Option Nat} (h : Gr B w p f e l q) (hb : Below w.heap.size w w') : Gr B w' p f e l q := by
  obtain ⟨A, c, h1, h2, h3⟩ := h.mem
  exact { h with mem := ⟨A, c, row_below h1 hb, own_below h2 hb, h3⟩ }
theorem Gr.kept {B p : Nat} {S : List Nat} {w w' : World} {f e : Int} {l : List Ext} {q : Option Nat} (h : Gr B w p f e l q) (k : Keep S w w') (hp : p ∉ S) (hq : ∀ i, q = some i → i ∉ S) : Gr B w' p f e l q := by
  obtain ⟨A, c, h1, h2, h3⟩ := h.mem
  exact { h with mem := ⟨A, c, k.row h1 hp, own_kept h2 k (by rw [h3]; exact hq), h3⟩ }
theorem Gr.lt {B p : Nat} {w : World} {f e : Int} {l : List Ext} {q : Option Nat} (h : Gr B w p f e l q) : p < w.heap.size ∧ ∀ i, q = some i → i < w.heap.size ∧ B ≤ i := by
  obtain ⟨A, c, h1, h2, h3⟩ := h.mem
  refine ⟨lt_of_heap h1, fun i hi => ?_⟩
  have := h2.lt i (by rw [h3, hi])
  exact ⟨this.2, this.1⟩

theorem i64_or_nat (X Y : Nat) (hX : X < 9223372036854775808) (hY : Y < 9223372036854775808) : bits .or .i64 (X : Int) (Y : Int) = ((X ||| Y : Nat) : Int) := by
  show IntKind.i64.wrap ((BitVec.ofInt 64 (X : Int) ||| BitVec.ofInt 64 (Y : Int)).toNat : Int) = _
  rw [BitVec.toNat_or, BitVec.ofInt_natCast, BitVec.ofInt_natCast, BitVec.toNat_ofNat, BitVec.toNat_ofNat, Nat.mod_eq_of_lt (by omega), Nat.mod_eq_of_lt (by omega)]
  have : X ||| Y < 2 ^ 63 := Nat.or_lt_two_pow (by omega) (by omega)
  exact IntWalk.i64_in _ (by omega)
theorem or_mod8 (a b : Int) (h0 : 0 ≤ a) (h1 : a < 9223372036854775808) (h2 : 0 ≤ b) (h3 : b < 9223372036854775808) : 0 ≤ bits .or .i64 a b ∧ bits .or .i64 a b ≤ 9223372036854775807 ∧ (bits .or .i64 a b % 8 = 0 ↔ a % 8 = 0 ∧ b % 8 = 0) := by
  obtain ⟨X, rfl⟩ := Int.eq_ofNat_of_zero_le h0
  obtain ⟨Y, rfl⟩ := Int.eq_ofNat_of_zero_le h2
  rw [i64_or_nat X Y (by omega) (by omega)]
  have hlt : X ||| Y < 2 ^ 63 := Nat.or_lt_two_pow (by omega) (by omega)
  have hm : (X ||| Y) % 8 = (X % 8) ||| (Y % 8) := Nat.or_mod_two_pow (n := 3)
  have h8 : (X ||| Y) % 8 = 0 ↔ X % 8 = 0 ∧ Y % 8 = 0 := by rw [hm, Nat.or_eq_zero_iff]
  refine ⟨by omega, by omega, ?_⟩
  constructor
  · intro h
    have := h8.1 (by omega)
    omega
  · intro h
    have := h8.2 (by omega)
    omega

def newMay (a s : Int) : Bool := inB a 0 65536 && inB s 0 65536 && decide (a % 8 = 0) && decide (s % 8 = 0)

set_option maxHeartbeats 1000000 in
theorem new_bad (a s : Int) (w : World) (h : newMay a s = false) :
    Calls Try.prog 40 #[.int .i64 a, .int .i64 s] w fun e w' => e = .returned (.tuple #[.pointer none, .int .i64 1]) ∧ w' = w := by
  unfold newMay at h
  cases ha : inB a 0 65536 with
  | false =>
    go_enter Try.func40, Try.ntmps40
    clear h
    go_wp2_with (go_at_call 41; refine (within_any _ _ _ _).mono ?_; rintro r w1 ⟨rfl, rfl⟩; rw [ha])
    go_ret2
    exact ⟨rfl, rfl⟩
  | true =>
    cases hs : inB s 0 65536 with
    | false =>
      clear h
      go_enter Try.func40, Try.ntmps40
      go_wp2_with (go_at_call 41; refine (within_any _ _ _ _).mono ?_; rintro r w1 ⟨rfl, rfl⟩; first | rw [ha] | rw [hs])
      go_ret2
      exact ⟨rfl, rfl⟩
    | true =>
      rw [ha, hs] at h
      have hba := ha
      have hbs := hs
      simp only [inB, decide_eq_true_eq] at hba hbs
      obtain ⟨o1, o2, o3⟩ := or_mod8 a s (by omega) (by omega) (by omega) (by omega)
      have hd : ((bits .or .i64 a s % 8 : Int) != 0) = true := by
        rw [bne_iff_ne]
        intro h0
        have := o3.1 h0
        simp [this.1, this.2] at h
      clear h o3 hba hbs
      go_enter Try.func40, Try.ntmps40
      go_wp2_with (go_at_call 41; refine (within_any _ _ _ _).mono ?_; rintro r w1 ⟨rfl, rfl⟩; first | rw [ha] | rw [hs])
      go_ret2
      exact ⟨rfl, rfl⟩


def oneExt (a s : Int) : List Ext := if s = 0 then [] else [(a, s)]

set_option maxHeartbeats 1000000 in
theorem new_good (a s : Int) (w : World) (h : newMay a s = true) :
    Calls Try.prog 40 #[.int .i64 a, .int .i64 s] w fun e w' => ∃ p q, e = .returned (.tuple #[.pointer (some ⟨p, 0, none⟩), .int .i64 0]) ∧ Gr w.heap.size w' p a (a + s) (oneExt a s) q ∧ Below w.heap.size w w' := by
  unfold newMay at h
  simp only [Bool.and_eq_true, decide_eq_true_eq] at h
  obtain ⟨⟨⟨ha, hs⟩, ha8⟩, hs8⟩ := h
  have hba := ha
  have hbs := hs
  simp only [inB, decide_eq_true_eq] at hba hbs
  obtain ⟨a0, a1⟩ := hba
  obtain ⟨s0, s1⟩ := hbs
  obtain ⟨o1, o2, o3⟩ := or_mod8 a s (by omega) (by omega) (by omega) (by omega)
  have hd : ((bits .or .i64 a s % 8 : Int) != 0) = false := by
    rw [o3.2 ⟨ha8, hs8⟩]
    rfl
  have Ha8 := Lib.hid ha8
  have Hs8 := Lib.hid hs8
  clear o3 ha8 hs8
  by_cases hz : 0 < s
  · go_enter Try.func40, Try.ntmps40
    go_wp2_with (go_at_call 41; refine (within_any _ _ _ _).mono ?_; rintro r w1 ⟨rfl, rfl⟩; first | rw [ha] | rw [hs])
    go_ret2
    refine ⟨w1.heap.size, some (w1.heap.size + 1), rfl, ⟨?_, by simp, Nat.le_refl _, ?_, by omega, by omega, by omega⟩, by go_grown⟩
    · rw [oneExt, if_neg (by omega)]
      exact ⟨some ⟨w1.heap.size + 1, 0, none⟩, 1, row_alloc (row_new _ _ _), own_all (heap_at (by simp)) (by omega) rfl (by simp [maxLen]), rfl⟩
    · rw [oneExt, if_neg (by omega)]
      exact ⟨Int.le_refl _, hz, Ha8.out, Hs8.out, Int.le_refl _, trivial⟩
  · obtain rfl : s = 0 := by omega
    go_enter Try.func40, Try.ntmps40
    go_wp2_with (go_at_call 41; refine (within_any _ _ _ _).mono ?_; rintro r w1 ⟨rfl, rfl⟩; first | rw [ha] | rw [hs])
    go_ret2
    exact ⟨w1.heap.size, none, rfl, ⟨⟨none, 0, by rw [Int.add_zero]; exact row_new _ _ _, World.ownsRow_nil _ _ _ _, rfl⟩, by simp, Nat.le_refl _, trivial, by omega, by omega, by omega⟩, by go_grown⟩

set_option maxHeartbeats 400000 in
theorem free_any (B p : Nat) (f e : Int) (l : List Ext) (q : Option Nat) (w : World) (h : Gr B w p f e l q) :
    Calls Try.prog 48 #[.pointer (some ⟨p, 0, none⟩)] w fun r w' => ∃ v, r = .returned v ∧ NewExts w l v w' := by
  have hsz := h.size
  obtain ⟨A, c, h1, h2, _⟩ := h.mem
  obtain ⟨_, _, b2, _, _, _⟩ := box3 h1
  have hc := Cells.of_own h2
  clear h h1 h2
  go_enter Try.func48, Try.ntmps48
  go_wp2_with (go_at_call 69; refine (clone_any A c l _ (by omega) hc).mono ?_; rintro r w1 ⟨v, rfl, hv⟩)
  go_ret
  exact ⟨_, rfl, hv⟩

end Go.Proofs.Ytcicpfhbpcdjcaa
