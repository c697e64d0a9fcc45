/- Plans that may be, and where all stands: the walks of plan's functions, and of the document's. -/
import Derived.Test.YtconieenkeajiaaNum
import Derived.Test.YtconieenkeajiaaSub
import Derived.Deep.QuietTactic
import Derived.BigQuiet
namespace Go.Proofs.Ytconieenkeajiaa
open Go.RowKit
set_option linter.unusedVariables false
set_option linter.unusedSimpArgs false
theorem row_two {w : World} {g : Nat} {a b a' b' : Value} {t : TypeId} (h : w.heap[g]? = some (.cells #[a, b] t (0, 0))) :
    ((w.setCell ⟨g, 0, none⟩ a').setCell ⟨g, 1, none⟩ b').heap[g]? = some (.cells #[a', b'] t (0, 0)) := by
  have := row_set (i := 1) (row_set (i := 0) h a') b'
  simpa using this
theorem infoExt2 : (Try.prog.info? 108).map (·.size) = some 2 := by kernel_rfl

/-- a plan that may be -/
structure PlanOk (s t i h : Int) : Prop where
  s0 : 1 ≤ s
  s1 : s ≤ 8
  t0 : 1 ≤ t
  t1 : t ≤ 4
  i0 : 0 ≤ i
  i1 : i ≤ 2048
  h0 : 0 ≤ h
  h1 : h ≤ 8192
  i8 : i % 8 = 0
  h8 : h % 8 = 0

theorem or8 (i h : Int) (i0 : 0 ≤ i) (i1 : i ≤ 2048) (h0 : 0 ≤ h) (h1 : h ≤ 8192) (i8 : i % 8 = 0) (h8 : h % 8 = 0) : bits .or .i64 i h % 8 = 0 ∧ 0 ≤ bits .or .i64 i h := by
  obtain ⟨X, rfl⟩ := Int.eq_ofNat_of_zero_le i0
  obtain ⟨Y, rfl⟩ := Int.eq_ofNat_of_zero_le h0
  have e : bits .or .i64 (X : Int) (Y : Int) = ((X ||| Y : Nat) : Int) := by
    show IntKind.i64.wrap ((BitVec.ofInt 64 (X : Int) ||| BitVec.ofInt 64 (Y : Int)).toNat : Int) = _
    rw [BitVec.toNat_or, BitVec.ofInt_natCast, BitVec.ofInt_natCast, BitVec.toNat_ofNat, BitVec.toNat_ofNat, Nat.mod_eq_of_lt (by omega), Nat.mod_eq_of_lt (by omega)]
    have hlt : X ||| Y < 2 ^ 14 := Nat.or_lt_two_pow (by omega) (by omega)
    exact IntWalk.i64_in _ (by omega)
  rw [e]
  have hm : (X ||| Y) % 2 ^ 3 = X % 2 ^ 3 ||| Y % 2 ^ 3 := Nat.or_mod_two_pow
  have e1 : X % 2 ^ 3 = 0 := by omega
  have e2 : Y % 2 ^ 3 = 0 := by omega
  rw [e1, e2] at hm
  simp at hm
  omega

set_option maxRecDepth 100000 in
set_option maxHeartbeats 1000000 in
theorem planRight_yes (s t i h : Int) (w : World) (H : PlanOk s t i h) :
    Calls Try.prog 64 #[.agg #[.int .i64 s, .int .i64 t, .int .i64 i, .int .i64 h]] w fun r w' => r = .returned (.bool true) ∧ Below w.heap.size w w' := by
  obtain ⟨s0, s1, t0, t1, i0, i1, h0, h1, i8, h8⟩ := H
  have ho := or8 i h i0 i1 h0 h1 i8 h8
  have b1 : inB s 1 8 = true := inB_t ⟨s0, s1⟩
  have b2 : inB t 1 4 = true := inB_t ⟨t0, t1⟩
  have b3 : inB i 0 2048 = true := inB_t ⟨i0, i1⟩
  have b4 : inB h 0 8192 = true := inB_t ⟨h0, h1⟩
  obtain ⟨z, hz⟩ : ∃ z, bits .or .i64 i h = z := ⟨_, rfl⟩
  rw [hz] at ho
  have hm : (z % 8 == 0) = true := by simpa using ho.1
  have hz0 := ho.2
  clear s0 s1 t0 t1 i0 i1 h0 h1 i8 h8 ho
  go_enter Try.func64, Try.ntmps64
  go_wp2_with (go_at_call 53; refine (within_any _ _ _ _).mono ?_; rintro r w1 ⟨rfl, rfl⟩; first | rw [b1] | rw [b2] | rw [b3] | rw [b4])
  go_ret
  exact ⟨rfl, by go_grown⟩

set_option maxRecDepth 100000 in
set_option maxHeartbeats 1000000 in
theorem planAt_any (s t i h part sc : Int) (w : World) (H : PlanOk s t i h) (hp : 0 ≤ part ∧ part ≤ 4) (hs : 0 ≤ sc ∧ sc ≤ s - 1) :
    Calls Try.prog 34 #[.agg #[.int .i64 s, .int .i64 t, .int .i64 i, .int .i64 h], .int .i64 part, .int .i64 sc] w fun r w' => r = .returned (.tuple #[.int .i64 (64 * sc + 8 * part), .int .i64 0]) ∧ Below w.heap.size w w' := by
  have s0 := H.s0
  have s1 := H.s1
  have b1 : inB part 0 4 = true := inB_t hp
  have b2 : inB sc 0 (s - 1) = true := inB_t hs
  obtain ⟨p0, p1⟩ := hp
  obtain ⟨c0, c1⟩ := hs
  rw [show 64 * sc + 8 * part = sc * 64 + part * 8 by omega]
  have HR := fun w => Lib.hid (planRight_yes s t i h w H)
  clear H
  go_enter Try.func34, Try.ntmps34
  go_upto_region 1 with fail
  refine one_row w _ _ ?_
  intro W hR hB
  obtain ⟨x0, x1, x2, x3, _⟩ := box4 hR
  have HRow := Lib.hid hR
  clear hR
  go_wp2_with fail
  refine (HR _).out.mono ?_
  rintro r w1 ⟨rfl, hb⟩
  clear x0 x1 x2 x3
  have hB1 := below_only hB hb
  obtain ⟨x0, x1, x2, x3, _⟩ := box4 (row_below HRow.out hb)
  clear hb hB HRow
  go_wp2_with (go_at_call 53; refine (within_any _ _ _ _).mono ?_; rintro r w1 ⟨rfl, rfl⟩; first | rw [b1] | rw [b2])
  go_ret2
  exact ⟨rfl, by go_grown⟩

set_option maxRecDepth 100000 in
set_option maxHeartbeats 1000000 in
theorem planImm_any (s t i h : Int) (w : World) (H : PlanOk s t i h) :
    Calls Try.prog 49 #[.agg #[.int .i64 s, .int .i64 t, .int .i64 i, .int .i64 h]] w fun r w' => r = .returned (.tuple #[.agg #[.int .i64 (64 * s), .int .i64 i], .int .i64 0]) ∧ Below w.heap.size w w' := by
  have s0 := H.s0
  have s1 := H.s1
  have HR := fun w => Lib.hid (planRight_yes s t i h w H)
  clear H
  rw [show 64 * s = s * 64 by omega]
  go_enter Try.func49, Try.ntmps49
  go_upto_region 1 with fail
  refine two_rows' w _ _ _ _ ?_
  intro W hR hQ hB
  obtain ⟨x0, x1, x2, x3, _⟩ := box4 hR
  have HRow := Lib.hid hR
  have HQ := Lib.hid hQ
  clear hR hQ
  go_wp2_with fail
  refine (HR _).out.mono ?_
  rintro r w1 ⟨rfl, hb⟩
  clear x0 x1 x2 x3
  have hB1 := below_only hB hb
  obtain ⟨x0, x1, x2, x3, _⟩ := box4 (row_below HRow.out hb)
  obtain ⟨y0, y1, y0f, y1f⟩ := box2 (row_below HQ.out hb)
  have zq := lt_of_heap (row_below HQ.out hb)
  clear hb hB HRow HQ
  go_wp2_with fail
  refine bodyPost_ret (by simp [results, Try.results49, go_sem, x0, x1, x2, x3, y0, y1]; rfl) rfl ?_
  exact ⟨rfl, by go_grown⟩

set_option maxRecDepth 100000 in
set_option maxHeartbeats 1000000 in
theorem planHeap_any (s t i h : Int) (w : World) (H : PlanOk s t i h) :
    Calls Try.prog 47 #[.agg #[.int .i64 s, .int .i64 t, .int .i64 i, .int .i64 h]] w fun r w' => r = .returned (.tuple #[.agg #[.int .i64 (64 * s + i), .int .i64 h], .int .i64 0]) ∧ Below w.heap.size w w' := by
  have s0 := H.s0
  have s1 := H.s1
  have i0 := H.i0
  have i1 := H.i1
  have HR := fun w => Lib.hid (planImm_any s t i h w H)
  clear H
  obtain ⟨z, hz⟩ : ∃ z, z = 64 * s := ⟨_, rfl⟩
  rw [← hz] at HR ⊢
  have z0 : 0 ≤ z := by omega
  have z1 : z ≤ 512 := by omega
  clear hz
  go_enter Try.func47, Try.ntmps47
  go_upto_region 1 with fail
  refine two_rows' w _ _ _ _ ?_
  intro W hR hQ hB
  obtain ⟨x0, x1, x2, x3, _⟩ := box4 hR
  have HRow := Lib.hid hR
  have HQ := Lib.hid hQ
  clear hR hQ
  go_wp2_with fail
  refine (HR _).out.mono ?_
  rintro r w1 ⟨rfl, hb⟩
  clear x0 x1 x2 x3
  have hB1 := below_only hB hb
  obtain ⟨x0, x1, x2, x3, _⟩ := box4 (row_below HRow.out hb)
  obtain ⟨y0, y1, y0f, y1f⟩ := box2 (row_below HQ.out hb)
  have zq := lt_of_heap (row_below HQ.out hb)
  have zr := lt_of_heap (row_below HRow.out hb)
  have HQ1 := Lib.hid (row_below HQ.out hb)
  clear hb hB HRow HQ
  go_wp2_with fail
  refine bodyPost_ret (results_cell_row_tmp (fn := Try.f47) rfl _ _ (w.heap.size + 1) 108 #[.int .i64 (z + i), .int .i64 h] (0, 0) _ rfl (row_alloc (row_two HQ1.out)) Try.underlying108 rfl infoExt2) rfl ?_
  exact ⟨rfl, by go_grown⟩

set_option maxRecDepth 100000 in
set_option maxHeartbeats 1000000 in
theorem planSize_any (s t i h : Int) (w : World) (H : PlanOk s t i h) :
    Calls Try.prog 45 #[.agg #[.int .i64 s, .int .i64 t, .int .i64 i, .int .i64 h]] w fun r w' => r = .returned (.tuple #[.int .i64 (64 * s + i + h), .int .i64 0]) ∧ Below w.heap.size w w' := by
  have s0 := H.s0
  have s1 := H.s1
  have i0 := H.i0
  have i1 := H.i1
  have h0 := H.h0
  have h1 := H.h1
  have HR := fun w => Lib.hid (planHeap_any s t i h w H)
  clear H
  obtain ⟨z, hz⟩ : ∃ z, z = 64 * s + i := ⟨_, rfl⟩
  rw [← hz] at HR ⊢
  have z0 : 0 ≤ z := by omega
  have z1 : z ≤ 5120 := by omega
  clear hz s0 s1 i0 i1
  go_enter Try.func45, Try.ntmps45
  go_wp2_with fail
  refine (HR _).out.mono ?_
  rintro r w1 ⟨rfl, hb⟩
  have hB : Below w.heap.size w w1 := below_only (by go_grown) hb
  have hbz := hB.size
  clear hb
  go_wp2_with fail
  go_ret2
  exact ⟨rfl, by go_grown⟩

set_option maxRecDepth 100000 in
theorem rplanAt_any (part sc : Int) (w : World) (hp : 0 ≤ part ∧ part ≤ 4) (hs : 0 ≤ sc ∧ sc ≤ 7) :
    Calls Try.prog 14 #[.int .i64 part, .int .i64 sc] w fun r w' => r = .returned (.int .i64 (64 * sc + 8 * part)) ∧ w' = w := by
  obtain ⟨p0, p1⟩ := hp
  obtain ⟨c0, c1⟩ := hs
  go_enter Try.func14, Try.ntmps14
  go_wp2
  go_ret
  exact ⟨rfl, rfl⟩

end Go.Proofs.Ytconieenkeajiaa
