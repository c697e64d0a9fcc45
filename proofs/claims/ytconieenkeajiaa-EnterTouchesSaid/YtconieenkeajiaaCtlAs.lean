/- Words of control words, by name. -/
import Derived.Test.YtconieenkeajiaaCtlH
namespace Go.Proofs.Ytconieenkeajiaa
open Go.RowKit

theorem pack_as {s n p e v c : Int} (H : Hid (pack ⟨s, n, p, e⟩ = (v, c))) (w : World) : Calls Try.prog 65 #[.agg #[.int .i64 s, .int .i64 n, .int .i64 p, .int .i64 e]] w fun r w' => r = .returned (.tuple #[.int .u64 v, .int .i64 c]) ∧ Below w.heap.size w w' := by
  have h := pack_any s n p e w
  rw [H.out] at h
  exact h
theorem rpack_as {s n p e v c : Int} (H : Hid (pack ⟨s, n, p, e⟩ = (v, c))) (w : World) : Calls Try.prog 11 #[.agg #[.int .i64 s, .int .i64 n, .int .i64 p, .int .i64 e]] w fun r w' => r = .returned (.tuple #[.int .u64 v, .int .i64 c]) ∧ Below w.heap.size w w' := by
  have h := rpack_any s n p e w
  rw [H.out] at h
  exact h
theorem unpack_as {x s n p e c : Int} (H : Hid (unpack x = (⟨s, n, p, e⟩, c))) (h0 : 0 ≤ x) (h1 : x ≤ 18446744073709551615) (w : World) : Calls Try.prog 44 #[.int .u64 x] w fun r w' => r = .returned (.tuple #[.agg #[.int .i64 s, .int .i64 n, .int .i64 p, .int .i64 e], .int .i64 c]) ∧ Below w.heap.size w w' := by
  have h := unpack_any x w h0 h1
  rw [H.out] at h
  exact h
theorem runpack_as {x s n p e c : Int} (H : Hid (unpack x = (⟨s, n, p, e⟩, c))) (h0 : 0 ≤ x) (h1 : x ≤ 18446744073709551615) (w : World) : Calls Try.prog 40 #[.int .u64 x] w fun r w' => r = .returned (.tuple #[.agg #[.int .i64 s, .int .i64 n, .int .i64 p, .int .i64 e], .int .i64 c]) ∧ Below w.heap.size w w' := by
  have h := runpack_any x w h0 h1
  rw [H.out] at h
  exact h
theorem enter_as {s n p e f s' n' p' e' c : Int} (H : Hid (enter ⟨s, n, p, e⟩ f = (⟨s', n', p', e'⟩, c))) (w : World) : Calls Try.prog 26 #[.agg #[.int .i64 s, .int .i64 n, .int .i64 p, .int .i64 e], .int .i64 f] w fun r w' => r = .returned (.tuple #[.agg #[.int .i64 s', .int .i64 n', .int .i64 p', .int .i64 e'], .int .i64 c]) ∧ Below w.heap.size w w' := by
  have h := enter_any s n p e f w
  rw [H.out] at h
  exact h
theorem renter_as {s n p e f s' n' p' e' c : Int} (H : Hid (enter ⟨s, n, p, e⟩ f = (⟨s', n', p', e'⟩, c))) (w : World) : Calls Try.prog 28 #[.agg #[.int .i64 s, .int .i64 n, .int .i64 p, .int .i64 e], .int .i64 f] w fun r w' => r = .returned (.tuple #[.agg #[.int .i64 s', .int .i64 n', .int .i64 p', .int .i64 e'], .int .i64 c]) ∧ Below w.heap.size w w' := by
  have h := renter_any s n p e f w
  rw [H.out] at h
  exact h
theorem ropen_as {s n p e s' n' p' e' c : Int} (H : Hid (openC ⟨s, n, p, e⟩ = (⟨s', n', p', e'⟩, c))) (w : World) : Calls Try.prog 25 #[.agg #[.int .i64 s, .int .i64 n, .int .i64 p, .int .i64 e]] w fun r w' => r = .returned (.tuple #[.agg #[.int .i64 s', .int .i64 n', .int .i64 p', .int .i64 e'], .int .i64 c]) ∧ Below w.heap.size w w' := by
  have h := ropen_any s n p e w
  rw [H.out] at h
  exact h
theorem fit_as {s n p e s' n' p' e' : Int} (H : Hid (fit ⟨s, n, p, e⟩ = ⟨s', n', p', e'⟩)) (w : World) : Calls Try.prog 12 #[.agg #[.int .i64 s, .int .i64 n, .int .i64 p, .int .i64 e]] w fun r w' => r = .returned (.agg #[.int .i64 s', .int .i64 n', .int .i64 p', .int .i64 e']) ∧ Below w.heap.size w w' := by
  have h := fit_any s n p e w
  rw [H.out] at h
  exact h

theorem ctl_parts (c : Ctl × Int) : ∃ s n p e k, Hid (c = (⟨s, n, p, e⟩, k)) := ⟨c.1.st, c.1.n, c.1.p, c.1.ep, c.2, rfl⟩

end Go.Proofs.Ytconieenkeajiaa
