/- Scopes in memory; the walks of num.Up, plan's functions, the document's plans. -/
import Derived.Test.YtcicpfhbpcdjcaaScPlain
import Derived.Test.YtcicpfhbpcdjcaaCtlC
namespace Go.Proofs.Ytcicpfhbpcdjcaa
open Go.RowKit

/-- the row of scopes lies at b, the ground at g (its row of what is free at q) -/
structure Scs (B : Nat) (w : World) (p b g : Nat) (q : Option Nat) (f e : Int) (S : Sco) : Prop where
  hd : w.heap[p]? = some (.cells #[.slice (some ⟨b, 0, none⟩) S.l.length S.l.length, .pointer (some ⟨g, 0, none⟩)] 70 (0, 0))
  row : w.heap[b]? = some (.cells (S.l.flatMap scCells).toArray 72 (0, 0))
  gr : Gr B w g f e S.F q
  ne1 : b ≠ p
  ne2 : g ≠ p
  ne3 : g ≠ b
  ne4 : q ≠ some p
  ne5 : q ≠ some b
  low : B ≤ p
  lowb : B ≤ b
  n1 : 1 ≤ S.l.length
  n8 : S.l.length ≤ 8
  ok : ∀ s ∈ S.l, ScOk s

section
variable {B p b g : Nat} {q : Option Nat} {f e : Int} {S : Sco} {w w' : World}
theorem Scs.kept {T : List Nat} (h : Scs B w p b g q f e S) (k : Keep T w w') (hp : p ∉ T) (hb : b ∉ T) (hg : g ∉ T) (hq : ∀ i, q = some i → i ∉ T) : Scs B w' p b g q f e S :=
  { h with hd := k.row h.hd hp, row := k.row h.row hb, gr := h.gr.kept k hg hq }
theorem Scs.below (h : Scs B w p b g q f e S) (k : Below w.heap.size w w') : Scs B w' p b g q f e S :=
  { h with hd := row_below h.hd k, row := row_below h.row k, gr := h.gr.below k }
theorem Scs.lt (h : Scs B w p b g q f e S) : p < w.heap.size ∧ b < w.heap.size ∧ g < w.heap.size ∧ ∀ i, q = some i → i < w.heap.size ∧ B ≤ i :=
  ⟨lt_of_heap h.hd, lt_of_heap h.row, h.gr.lt.1, h.gr.lt.2⟩
/-- a block above which all of it lies -/
theorem Scs.free (h : Scs B w p b g q f e S) {k : Nat} (hk : w.heap.size ≤ k) : k ≠ p ∧ k ≠ b ∧ k ≠ g ∧ q ≠ some k := by
  obtain ⟨h1, h2, h3, h4⟩ := h.lt
  exact ⟨by omega, by omega, by omega, fun e => by have := (h4 k e).1; omega⟩
theorem Scs.fine (h : Scs B w p b g q f e S) : Fine f e S := ⟨h.ok, h.n1, h.n8, h.gr.can, h.gr.f0, h.gr.fe, h.gr.e1⟩
/-- what a call on them may turn -/
abbrev ScT (b g : Nat) (q : Option Nat) : List Nat := b :: g :: q.toList
theorem Scs.turns (h : Scs B w p b g q f e S) : ∀ i ∈ ScT b g q, B ≤ i := by
  intro i hi
  rcases List.mem_cons.1 hi with rfl | hi
  · exact h.lowb
  · rcases List.mem_cons.1 hi with rfl | hi
    · exact h.gr.low
    · exact (h.lt.2.2.2 i (by simpa using hi)).2
theorem Scs.keep_below {a : World} (h : Scs B w p b g q f e S) (hb : Below B a w) (k : Keep (ScT b g q) w w') : Below B a w' :=
  Keep.under hb k (Nat.le_trans h.low (Nat.le_of_lt h.lt.1)) h.turns
end

/-- q' is what q was, or lies in new memory -/
abbrev Fresh (w : World) (q q' : Option Nat) : Prop := ∀ i, q' = some i → q = some i ∨ w.heap.size ≤ i

theorem scs_get (l : List Sc) (k j : Nat) (hj : j < 6) : (l.flatMap scCells)[k * 6 + j]? = (l[k]?).bind fun a => (scCells a)[j]? := flat_get scCells 6 scCells_length l k j hj
theorem scs_cell {w : World} {b : Nat} {l : List Sc} (h : w.heap[b]? = some (.cells (l.flatMap scCells).toArray 72 (0, 0))) {k : Nat} {s : Sc} (hs : l[k]? = some s) (j : Nat) (hj : j < 6) (v : Value) (hv : (scCells s)[j]? = some v) : w.cell? ⟨b, k * 6 + j, none⟩ = some v := by
  rw [row_cell h]
  have := scs_get l k j hj
  rw [hs] at this
  simpa using this.trans hv
/-- the cells of a scope -/
theorem scs_cells {w : World} {b : Nat} {l : List Sc} (h : w.heap[b]? = some (.cells (l.flatMap scCells).toArray 72 (0, 0))) {k : Nat} {s : Sc} (hs : l[k]? = some s) :
    w.cell? ⟨b, k * 6, none⟩ = some (.int .i64 s.c.st) ∧ w.cell? ⟨b, k * 6 + 1, none⟩ = some (.int .i64 s.c.n) ∧ w.cell? ⟨b, k * 6 + 2, none⟩ = some (.int .i64 s.c.p) ∧ w.cell? ⟨b, k * 6 + 3, none⟩ = some (.int .i64 s.c.ep) ∧ w.cell? ⟨b, k * 6 + 4, none⟩ = some (.int .i64 s.x.1) ∧ w.cell? ⟨b, k * 6 + 5, none⟩ = some (.int .i64 s.x.2) :=
  ⟨scs_cell h hs 0 (by omega) _ rfl, scs_cell h hs 1 (by omega) _ rfl, scs_cell h hs 2 (by omega) _ rfl, scs_cell h hs 3 (by omega) _ rfl, scs_cell h hs 4 (by omega) _ rfl, scs_cell h hs 5 (by omega) _ rfl⟩

theorem scs_set (l : List Sc) (k : Nat) (s t : Sc) (hs : l[k]? = some s) : (l.set k t).flatMap scCells = (l.flatMap scCells).take (k * 6) ++ (scCells t ++ (l.flatMap scCells).drop (k * 6 + 6)) := by
  have hk := (List.getElem?_eq_some_iff.1 hs).1
  rw [List.set_eq_take_append_cons_drop, if_pos hk, List.flatMap_append, List.flatMap_cons, flat_take scCells 6 scCells_length, flat_drop scCells 6 scCells_length, show (k + 1) * 6 = k * 6 + 6 by omega]
/-- a scope's cell is stored -/
theorem scs_store {w : World} {b : Nat} {l : List Sc} (h : w.heap[b]? = some (.cells (l.flatMap scCells).toArray 72 (0, 0))) {k : Nat} {s : Sc} (hs : l[k]? = some s) (j : Nat) (hj : j < 6) (v : Value) (t : Sc) (ht : scCells t = (scCells s).set j v) :
    (w.setCell ⟨b, k * 6 + j, none⟩ v).heap[b]? = some (.cells ((l.set k t).flatMap scCells).toArray 72 (0, 0)) := by
  rw [row_set h]
  congr 2
  apply Array.ext'
  have hk := (List.getElem?_eq_some_iff.1 hs).1
  apply List.ext_getElem?
  intro i
  simp only [Array.toList_setIfInBounds]
  rw [scs_set l k s t hs, ht, List.getElem?_set]
  have hl : (l.flatMap scCells).length = l.length * 6 := scs_len l
  have h6 : (k + 1) * 6 ≤ l.length * 6 := Nat.mul_le_mul_right 6 hk
  have htk : ((l.flatMap scCells).take (k * 6)).length = k * 6 := by rw [List.length_take]; omega
  by_cases h1 : i < k * 6
  · rw [if_neg (by omega), List.getElem?_append_left (by omega), List.getElem?_take, if_pos h1]
  · by_cases h2 : i < k * 6 + 6
    · obtain ⟨m, rfl⟩ : ∃ m, i = k * 6 + m := ⟨i - k * 6, by omega⟩
      have hg := scs_get l k m (by omega)
      rw [hs] at hg
      rw [List.getElem?_append_right (by omega), htk, show k * 6 + m - k * 6 = m by omega, List.getElem?_append_left (by simp; omega), List.getElem?_set]
      by_cases hm : j = m
      · subst hm
        rw [if_pos rfl, if_pos (by omega), if_pos rfl, if_pos (by simp; omega)]
      · rw [if_neg (by omega), if_neg hm]
        exact hg
    · rw [if_neg (by omega), List.getElem?_append_right (by omega), htk, List.getElem?_append_right (by simp; omega), List.getElem?_drop]
      congr 1
      simp
      omega

theorem nat_hi8 (N : Nat) (h : N < 18446744073709551616) : N &&& 18446744073709551608 = N / 8 * 8 := by
  apply Nat.eq_of_testBit_eq
  intro i
  rw [Nat.testBit_and, show 18446744073709551608 = 2 ^ 64 - (7 + 1) by decide, Nat.testBit_two_pow_sub_succ (by decide), show (7 : Nat) = 2 ^ 3 - 1 by decide, Nat.testBit_two_pow_sub_one, show N / 8 * 8 = N / 2 ^ 3 * 2 ^ 3 by omega, Nat.testBit_mul_two_pow, Nat.testBit_div_two_pow]
  by_cases h3 : i < 3
  · simp [h3]; intro; omega
  · by_cases h64 : i < 64
    · simp [h64, show 3 ≤ i by omega, show i - 3 + 3 = i by omega]
    · have hlt : N < 2 ^ i := Nat.lt_of_lt_of_le h (by rw [show 18446744073709551616 = 2 ^ 64 by decide]; exact Nat.pow_le_pow_right (by omega) (by omega))
      simp [Nat.testBit_lt_two_pow hlt, show 3 ≤ i by omega, show i - 3 + 3 = i by omega]
theorem andNot7 (x : Int) (h0 : -9223372036854775808 ≤ x) (h1 : x ≤ 9223372036854775807) : bits .andNot .i64 x 7 = x / 8 * 8 := by
  show IntKind.i64.wrap ((BitVec.ofInt 64 x &&& ~~~BitVec.ofInt 64 7).toNat : Int) = _
  have h7 : (BitVec.ofInt 64 7).toNat = 7 := by decide
  rw [BitVec.toNat_and, BitVec.toNat_not, h7, show 2 ^ 64 - 1 - 7 = 18446744073709551608 by decide, nat_hi8 _ (BitVec.isLt _), BitVec.toNat_ofInt, IntKind.wrap_i64]
  omega

set_option maxHeartbeats 400000 in
theorem add_any (n : Int) (w : World) (h0 : 0 ≤ n) (h1 : n ≤ 65536) : Calls Try.prog 64 #[.int .i64 n, .int .i64 7] w fun r w' => r = .returned (.tuple #[.int .i64 (n + 7), .int .i64 0]) ∧ w' = w := by
  have hd : decide (n + 7 > n) = true := decide_eq_true (by omega)
  have hd2 : decide (n < n + 7) = true := decide_eq_true (by omega)
  go_enter Try.func64, Try.ntmps64
  go_wp2
  go_ret2
  exact ⟨rfl, rfl⟩
set_option maxHeartbeats 400000 in
theorem up_any (n : Int) (w : World) (h0 : 0 ≤ n) (h1 : n ≤ 65536) : Calls Try.prog 44 #[.int .i64 n] w fun r w' => r = .returned (.tuple #[.int .i64 (up8 n), .int .i64 0]) ∧ w' = w := by
  have hu : bits .andNot .i64 (n + 7) 7 = up8 n := andNot7 _ (by omega) (by omega)
  have hn : decide (n < 0) = false := decide_eq_false (by omega)
  go_enter Try.func44, Try.ntmps44
  go_wp2_with (go_at_call 64; refine (add_any _ _ h0 h1).mono ?_; rintro r w1 ⟨rfl, rfl⟩)
  go_ret2
  exact ⟨by rw [← hu]; rfl, rfl⟩

/-- a plan -/
structure Pln where
  s : Int
  t : Int
  i : Int
  h : Int
abbrev Pln.val (p : Pln) : Value := .agg #[.int .i64 p.s, .int .i64 p.t, .int .i64 p.i, .int .i64 p.h]
def PlnOk (p : Pln) : Prop := 1 ≤ p.s ∧ p.s ≤ 8 ∧ 1 ≤ p.t ∧ p.t ≤ 4 ∧ 0 ≤ p.i ∧ p.i ≤ 2048 ∧ 0 ≤ p.h ∧ p.h ≤ 8192 ∧ p.i % 8 = 0 ∧ p.h % 8 = 0
def fitP (p : Pln) : Pln := ⟨1 + p.s % 8, 1 + p.t % 4, 8 * (p.i % 64), 8 * (p.h % 128)⟩
theorem fitP_ok (p : Pln) : PlnOk (fitP p) := by unfold PlnOk fitP; simp only; omega

end Go.Proofs.Ytcicpfhbpcdjcaa
