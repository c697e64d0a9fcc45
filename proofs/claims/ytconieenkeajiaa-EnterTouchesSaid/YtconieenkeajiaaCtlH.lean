/- The walks of the reference's Unpack and Fit for control words. -/
import Derived.Test.YtconieenkeajiaaCtlG
namespace Go.Proofs.Ytconieenkeajiaa
open Go.RowKit

def fit (c : Ctl) : Ctl := ⟨c.st % 4, if c.st % 4 = 2 then 1 + c.n % 8 % 7 else 0, if 2 ≤ c.st % 4 then c.p % 16 % 9 - 1 else -1, c.ep % 16777216⟩
theorem fit_right (c : Ctl) : Right (fit c) := by
  unfold Right fit
  simp only
  have h : c.st % 4 = 0 ∨ c.st % 4 = 1 ∨ c.st % 4 = 2 ∨ c.st % 4 = 3 := by omega
  rcases h with h | h | h | h <;> rw [h] <;> simp <;> omega

attribute [local go_sem] mask2 mask3 mask4 mask24

set_option maxRecDepth 100000 in
set_option maxHeartbeats 1000000 in
theorem fit_any (s n p e : Int) (w : World) :
    Calls Try.prog 12 #[.agg #[.int .i64 s, .int .i64 n, .int .i64 p, .int .i64 e]] w fun r w' => r = .returned (fit ⟨s, n, p, e⟩).val ∧ Below w.heap.size w w' := by
  rw [show fit ⟨s, n, p, e⟩ = ⟨s % 4, if s % 4 = 2 then 1 + n % 8 % 7 else 0, if 2 ≤ s % 4 then p % 16 % 9 - 1 else -1, e % 16777216⟩ from rfl]
  by_cases h1 : 2 ≤ s % 4
  · have d1 : decide (2 ≤ s % 4) = true := decide_eq_true h1
    rw [if_pos h1]
    by_cases h2 : s % 4 = 2
    · have d2 : (s % 4 == 2) = true := by simp [h2]
      rw [if_pos h2]
      clear h1 h2
      go_enter Try.func12, Try.ntmps12
      go_wp2
      go_returns
      exact ⟨rfl, by go_grown⟩
    · have d2 : (s % 4 == 2) = false := by simp [h2]
      rw [if_neg h2]
      clear h1 h2
      go_enter Try.func12, Try.ntmps12
      go_wp2
      go_returns
      exact ⟨rfl, by go_grown⟩
  · have d1 : decide (2 ≤ s % 4) = false := decide_eq_false h1
    have d2 : (s % 4 == 2) = false := by simp; omega
    rw [if_neg h1, if_neg (fun h => h1 (by omega))]
    clear h1
    go_enter Try.func12, Try.ntmps12
    go_wp2
    go_returns
    exact ⟨rfl, by go_grown⟩

set_option maxRecDepth 100000 in
set_option maxHeartbeats 1000000 in
theorem runpack_any (x : Int) (w : World) (h0 : 0 ≤ x) (h1 : x ≤ 18446744073709551615) :
    Calls Try.prog 40 #[.int .u64 x] w fun r w' => r = .returned (.tuple #[(unpack x).1.val, .int .i64 (unpack x).2]) ∧ Below w.heap.size w w' := by
  have HT := Lib.hid (show told x = ⟨x % 4, x / 4 % 256, x / 1024 % 256 - 1, x / 262144 % 16777216⟩ from rfl)
  have R1 : ((w.alloc (.cells #[.int .i64 0, .int .i64 0, .int .i64 0, .int .i64 0] 23)).alloc (.cells #[.int .i64 (x % 4), .int .i64 (x / 4 % 256), .int .i64 (x / 1024 % 256 - 1), .int .i64 (x / 262144 % 16777216)] 23)).heap[w.heap.size]? = some (.cells #[.int .i64 0, .int .i64 0, .int .i64 0, .int .i64 0] 23) := row_alloc (row_new w _ _)
  have R2 : ((w.alloc (.cells #[.int .i64 0, .int .i64 0, .int .i64 0, .int .i64 0] 23)).alloc (.cells #[.int .i64 (x % 4), .int .i64 (x / 4 % 256), .int .i64 (x / 1024 % 256 - 1), .int .i64 (x / 262144 % 16777216)] 23)).heap[w.heap.size + 1]? = some (.cells #[.int .i64 (x % 4), .int .i64 (x / 4 % 256), .int .i64 (x / 1024 % 256 - 1), .int .i64 (x / 262144 % 16777216)] 23) := heap_at (by simp)
  have B0 : Below w.heap.size w ((w.alloc (.cells #[.int .i64 0, .int .i64 0, .int .i64 0, .int .i64 0] 23)).alloc (.cells #[.int .i64 (x % 4), .int .i64 (x / 4 % 256), .int .i64 (x / 1024 % 256 - 1), .int .i64 (x / 262144 % 16777216)] 23)) := by go_grown
  have HR1 := Lib.hid R1
  have HR2 := Lib.hid R2
  clear R1 R2
  have e0 : 0 ≤ x % 4 := by omega
  have e1 : 0 ≤ x / 4 := by omega
  have e2 : 0 ≤ x / 1024 := by omega
  have e3 : 0 ≤ x / 262144 := by omega
  have hw : Right (told x) → ((word (told x) != x) = !decide (x < 4398046511104)) := fun hr => by
    rw [Bool.eq_iff_iff]
    simp
    constructor
    · intro hne
      rcases Int.lt_or_le x 4398046511104 with h | h
      · exact absurd (word_told h0 h) hne
      · exact h
    · intro h e
      have := (right_word hr).2.1
      omega
  by_cases hr : Right (told x)
  · have hp : pack (told x) = (word (told x), 0) := by simp [pack, hr]
    by_cases hx : x < 4398046511104
    · rw [show unpack x = (told x, 0) by simp [unpack, hr, hx]]
      have hq : (word (told x) != x) = false := by rw [hw hr]; simp [hx]
      clear hr hw hx
      rw [HT.out] at hp hq ⊢
      have Hp := Lib.hid hp
      clear hp
      generalize word _ = W at Hp hq
      go_enter Try.func40, Try.ntmps40
      go_wp2_with fail
      refine (rpack_any _ _ _ _ _).mono ?_
      rintro r w1 ⟨rfl, hb⟩
      rw [Hp.out]
      have B1 := below_only B0 hb
      have R1 := row_below HR1.out hb
      have R2 := row_below HR2.out hb
      obtain ⟨r0, r1, r2, r3, f0, f1, f2, f3⟩ := box4 R1
      obtain ⟨q0, q1, q2, q3, _, _, _, _⟩ := box4 R2
      clear R1 R2 hb HR1 HR2
      go_wp2
      refine bodyPost_ret (by simp [results, Try.results40, go_sem, r0, r1, r2, r3]; rfl) rfl ?_
      exact ⟨rfl, by go_grown⟩
    · rw [show unpack x = (noCtl, 1) by simp [unpack, hx]]
      have hq : (word (told x) != x) = true := by rw [hw hr]; simp [hx]
      clear hr hw hx
      rw [HT.out] at hp hq
      have Hp := Lib.hid hp
      clear hp
      generalize word _ = W at Hp hq
      go_enter Try.func40, Try.ntmps40
      go_wp2_with fail
      refine (rpack_any _ _ _ _ _).mono ?_
      rintro r w1 ⟨rfl, hb⟩
      rw [Hp.out]
      have B1 := below_only B0 hb
      have R1 := row_below HR1.out hb
      have R2 := row_below HR2.out hb
      obtain ⟨r0, r1, r2, r3, f0, f1, f2, f3⟩ := box4 R1
      obtain ⟨q0, q1, q2, q3, _, _, _, _⟩ := box4 R2
      clear R1 R2 hb HR1 HR2
      go_wp2
      refine bodyPost_ret (by simp [results, Try.results40, go_sem, r0, r1, r2, r3]; rfl) rfl ?_
      exact ⟨rfl, by go_grown⟩
  · rw [show unpack x = (noCtl, 1) by simp [unpack, hr]]
    have hp : pack (told x) = (0, 1) := by simp [pack, hr]
    clear hr hw
    rw [HT.out] at hp
    have Hp := Lib.hid hp
    clear hp
    go_enter Try.func40, Try.ntmps40
    go_wp2_with fail
    refine (rpack_any _ _ _ _ _).mono ?_
    rintro r w1 ⟨rfl, hb⟩
    rw [Hp.out]
    have B1 := below_only B0 hb
    have R1 := row_below HR1.out hb
    have R2 := row_below HR2.out hb
    obtain ⟨r0, r1, r2, r3, f0, f1, f2, f3⟩ := box4 R1
    obtain ⟨q0, q1, q2, q3, _, _, _, _⟩ := box4 R2
    clear R1 R2 hb HR1 HR2
    go_wp2
    refine bodyPost_ret (by simp [results, Try.results40, go_sem, r0, r1, r2, r3]; rfl) rfl ?_
    exact ⟨rfl, by go_grown⟩

end Go.Proofs.Ytconieenkeajiaa
