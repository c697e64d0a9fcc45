/- The walk of the laws' 'does'. -/
import Derived.Test.YtcicpfhbpcdjcaaScE
import Derived.Test.YtcicpfhbpcdjcaaGroundOpen
namespace Go.Proofs.Ytcicpfhbpcdjcaa
open Go.RowKit

/-- what is done, and what was told -/
def doesS (f e : Int) (o : GOp) (S : Sco) : (Int × Int) × Sco :=
  if o.1 % 7 = 0 then createS o.2.2 S
  else if o.1 % 7 = 1 then ((0, (destroyS f e o.2.1 S).1), (destroyS f e o.2.1 S).2)
  else if o.1 % 7 = 4 then ((0, (leaveS o.2.1 S).1), (leaveS o.2.1 S).2)
  else if o.1 % 7 = 5 then ((0, (openS o.2.1 S).1), (openS o.2.1 S).2)
  else if o.1 % 7 = 6 then ((0, (holdS o.2.1 S).1), (holdS o.2.1 S).2)
  else ((0, (enterS o.2.1 o.2.2 S).1), (enterS o.2.1 o.2.2 S).2)

theorem keep_b {b g : Nat} {q : Option Nat} {w w' : World} (k : Keep [b] w w') : Keep (ScT b g q) w w' := k.mono fun _ _ hm => by simp at hm; simp [hm]

set_option maxRecDepth 100000 in
set_option maxHeartbeats 2000000 in
theorem does_any (B p b g : Nat) (q : Option Nat) (f e : Int) (S : Sco) (k i n : Int) (w : World) (k0 : 0 ≤ k) (k1 : k ≤ 255) (h : Scs B w p b g q f e S) :
    Calls Try.prog 23 #[.pointer (some ⟨p, 0, none⟩), .agg #[.int .u8 k, .int .i64 i, .int .i64 n]] w fun r w' =>
      r = .returned (.tuple #[.int .i64 (doesS f e (k, i, n) S).1.1, .int .i64 (doesS f e (k, i, n) S).1.2]) ∧ (∃ q', Scs B w' p b g q' f e (doesS f e (k, i, n) S).2 ∧ Fresh w q q') ∧ Keep (ScT b g q) w w' := by
  have hB : Below w.heap.size w (w.alloc (.cells #[.int .u8 k, .int .i64 i, .int .i64 n] 35)) := by go_grown
  have hsz : w.heap.size ≤ (w.alloc (.cells #[.int .u8 k, .int .i64 i, .int .i64 n] 35)).heap.size := hB.size
  have H1 := Lib.hid (h.below hB)
  have HK := Lib.hid (keep_below hB (ScT b g q))
  have Hsz := Lib.hid hsz
  clear h hB hsz
  obtain hk | hk | hk | hk | hk | hk | hk : k % 7 = 0 ∨ k % 7 = 1 ∨ k % 7 = 2 ∨ k % 7 = 3 ∨ k % 7 = 4 ∨ k % 7 = 5 ∨ k % 7 = 6 := by omega
  · have HD := Lib.hid (show doesS f e (k, i, n) S = createS n S by simp [doesS, hk])
    rw [HD.out]
    go_enter Try.func23, Try.ntmps23
    go_wp2_with fail
    refine (screate_any B p b g q f e S n _ H1.out).mono ?_
    rintro r w2 ⟨rfl, hS, hk2⟩
    go_wp2_with fail
    go_ret2
    exact ⟨rfl, ⟨q, hS, fun _ h => .inl h⟩, HK.out.trans hk2⟩
  · have HD := Lib.hid (show doesS f e (k, i, n) S = ((0, (destroyS f e i S).1), (destroyS f e i S).2) by simp [doesS, hk])
    rw [HD.out]
    go_enter Try.func23, Try.ntmps23
    go_wp2_with fail
    refine (sdestroy_any B p b g q f e S i _ H1.out).mono ?_
    rintro r w2 ⟨rfl, ⟨q2, hS, hq⟩, hk2⟩
    go_wp2_with fail
    go_ret2
    exact ⟨rfl, ⟨q2, hS, fun _ h => (hq _ h).imp_right (Nat.le_trans Hsz.out)⟩, HK.out.trans hk2⟩
  · have HD := Lib.hid (show doesS f e (k, i, n) S = ((0, (enterS i n S).1), (enterS i n S).2) by simp [doesS, hk])
    rw [HD.out]
    go_enter Try.func23, Try.ntmps23
    go_wp2_with fail
    refine (senter_any B p b g q f e S i n _ H1.out).mono ?_
    rintro r w2 ⟨rfl, hS, hk2⟩
    go_wp2_with fail
    go_ret2
    exact ⟨rfl, ⟨q, hS, fun _ h => .inl h⟩, HK.out.trans (keep_b hk2)⟩
  · have HD := Lib.hid (show doesS f e (k, i, n) S = ((0, (enterS i n S).1), (enterS i n S).2) by simp [doesS, hk])
    rw [HD.out]
    go_enter Try.func23, Try.ntmps23
    go_wp2_with fail
    refine (senter_any B p b g q f e S i n _ H1.out).mono ?_
    rintro r w2 ⟨rfl, hS, hk2⟩
    go_wp2_with fail
    go_ret2
    exact ⟨rfl, ⟨q, hS, fun _ h => .inl h⟩, HK.out.trans (keep_b hk2)⟩
  · have HD := Lib.hid (show doesS f e (k, i, n) S = ((0, (leaveS i S).1), (leaveS i S).2) by simp [doesS, hk])
    rw [HD.out]
    go_enter Try.func23, Try.ntmps23
    go_wp2_with fail
    refine (sleave_any B p b g q f e S i _ H1.out).mono ?_
    rintro r w2 ⟨rfl, hS, hk2⟩
    go_wp2_with fail
    go_ret2
    exact ⟨rfl, ⟨q, hS, fun _ h => .inl h⟩, HK.out.trans (keep_b hk2)⟩
  · have HD := Lib.hid (show doesS f e (k, i, n) S = ((0, (openS i S).1), (openS i S).2) by simp [doesS, hk])
    rw [HD.out]
    go_enter Try.func23, Try.ntmps23
    go_wp2_with fail
    refine (sopen_any B p b g q f e S i _ H1.out).mono ?_
    rintro r w2 ⟨rfl, hS, hk2⟩
    go_wp2_with fail
    go_ret2
    exact ⟨rfl, ⟨q, hS, fun _ h => .inl h⟩, HK.out.trans (keep_b hk2)⟩
  · have HD := Lib.hid (show doesS f e (k, i, n) S = ((0, (holdS i S).1), (holdS i S).2) by simp [doesS, hk])
    rw [HD.out]
    go_enter Try.func23, Try.ntmps23
    go_wp2_with fail
    refine (shold_any B p b g q f e S i _ H1.out).mono ?_
    rintro r w2 ⟨rfl, hS, hk2⟩
    go_wp2_with fail
    go_ret2
    exact ⟨rfl, ⟨q, hS, fun _ h => .inl h⟩, HK.out.trans (keep_b hk2)⟩

end Go.Proofs.Ytcicpfhbpcdjcaa
