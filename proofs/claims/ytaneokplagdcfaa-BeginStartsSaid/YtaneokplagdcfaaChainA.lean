/- The walks of package chain's readers (Area, at, Reach, Parent, Above) and of slices.Index at entries. -/
import Derived.Test.YtaneokplagdcfaaChainPlain
namespace Go.Proofs.Ytaneokplagdcfaa
open Go.RowKit

@[go_sem] theorem eqgEnt : Try.prog.eqGuardType Try.prog.depth 66 = false := by kernel_rfl
theorem stoodEnt : Try.prog.stoodInHeld 66 = false := by kernel_rfl
theorem undEnt : Try.prog.underlying 66 = some (.struct (Try.prog.fieldsOf 66)) := by kernel_rfl
theorem intEql (d : Nat) (s s' : Int) (w : World) : (Op.equalIn (d + 1) 3 (.int .i64 s) (.int .i64 s')).run Try.prog w = .ok (s == s') w := run_equalIn_int w d _ _ _ _ _ Try.underlying3
theorem boolEql (d : Nat) (s s' : Bool) (w : World) : (Op.equalIn (d + 1) 4 (.bool s) (.bool s')).run Try.prog w = .ok (s == s') w := run_equalIn_bool' w d _ _ _ Try.underlying4

@[go_sem high] theorem eqlEnt (w : World) (s s' : Int) (x x' : Bool) : (binOp .eql 66 (.agg #[.int .i64 s, .bool x]) (.agg #[.int .i64 s', .bool x'])).run Try.prog w = .ok (.bool (s == s' && x == x')) w := by
  rw [run_eql_struct, run_equalIn_agg _ _ _ _ _ undEnt stoodEnt]
  simp [Op.eqFields, go_sem, intEql, boolEql]
  by_cases h : s = s' <;> by_cases h' : x = x' <;> simp [h, h']

set_option maxRecDepth 100000 in
set_option maxHeartbeats 400000 in
theorem area_any (A : Option Addr) (c : Nat) (l : List Ent) (w : World) (hl : l.length ≤ 9223372036854775807) (he : Ents w A l) :
    Calls Try.prog 24 #[.slice A l.length c] w fun e w' => e = .returned (.int .i64 (area l)) ∧ w' = w := by
  rcases List.eq_nil_or_concat l with rfl | ⟨l', ⟨s, x⟩, rfl⟩
  · go_enter Try.func24, Try.ntmps24
    go_wp2
    go_ret
    exact ⟨rfl, rfl⟩
  · rw [show (l'.concat (s, x)) = l' ++ [(s, x)] by simp] at *
    obtain ⟨b, off, rfl, _, hc⟩ := he.at_ (by simp)
    obtain ⟨h0, h1⟩ := hc l'.length s x (by simp)
    have Ha := Lib.hid (show area (l' ++ [(s, x)]) = s by simp [area])
    clear hc he
    rw [List.length_append, List.length_singleton] at *
    go_enter Try.func24, Try.ntmps24
    go_wp2
    go_ret
    exact ⟨by rw [Ha.out]; rfl, rfl⟩

set_option maxRecDepth 100000 in
set_option maxHeartbeats 400000 in
theorem index_any (A : Option Addr) (c : Nat) (l : List Ent) (s : Int) (x : Bool) (w : World) (hl : l.length ≤ 9223372036854775807) (he : Ents w A l) :
    Calls Try.prog 82 #[.slice A l.length c, .agg #[.int .i64 s, .bool x]] w fun e w' => e = .returned (.int .i64 (idx (s, x) l)) ∧ Below w.heap.size w w' := by
  go_enter Try.func82, Try.ntmps82
  go_wp2
  go_loopw [5, 8] (fun _ t wr => ∃ k nq : Nat, k ≤ l.length ∧ t = .int .i64 k ∧ (∀ j, j < k → l[j]? ≠ some (s, x)) ∧ wr = (w.alloc (.cells #[.int .i64 s, .bool x] 66)).drewN nq)
    (fun _ t _ => l.length - (intOf t).toNat)
  case atStart => exact ⟨0, 0, Nat.zero_le _, rfl, by simp, rfl⟩
  case round =>
    obtain ⟨k, nq, hk, rfl, hn, rfl⟩ := hrel
    by_cases hlt : k < l.length
    · obtain ⟨b, off, rfl, hb, hc⟩ := he.at_ (by omega)
      obtain ⟨s', x', hv⟩ : ∃ s' x', l[k]? = some (s', x') := ⟨_, _, List.getElem?_eq_getElem hlt⟩
      obtain ⟨h0, h1⟩ := hc k s' x' hv
      have Hn := Lib.hid hn
      have Hv := Lib.hid hv
      clear hn hv hc he
      by_cases heq : (s == s' && x == x') = true
      · go_wp2
        go_quiet (fail)
        go_wp2
        go_ret
        simp only [Bool.and_eq_true, beq_iff_eq] at heq
        obtain ⟨rfl, rfl⟩ := heq
        exact ⟨by rw [idx_some _ _ k Hv.out Hn.out]; rfl, below_drewN (below_drewN ((Below.refl _ _).alloc (Nat.le_refl _) _) _) _⟩
      · have hne : (s == s' && x == x') = false := by simpa using heq
        clear heq
        go_wp2
        go_quiet (fail)
        go_wp2
        go_roundw
        case rel =>
          refine ⟨k + 1, _, hlt, by go_num, fun j hj => ?_, rfl⟩
          rcases Nat.lt_or_ge j k with h | h
          · exact Hn.out j h
          · obtain rfl : j = k := by omega
            rw [Hv.out]
            intro e
            simp only [Option.some.injEq, Prod.mk.injEq] at e
            simp [e] at hne
        case measure => simp [intOf]; omega
    · have Hn := Lib.hid hn
      clear hn
      go_wp2
      go_ret
      exact ⟨by rw [idx_none _ _ (fun j hj => Hn.out j (by omega))]; rfl, below_drewN ((Below.refl _ _).alloc (Nat.le_refl _) _) _⟩

set_option maxRecDepth 100000 in
set_option maxHeartbeats 400000 in
theorem at_any (A : Option Addr) (c : Nat) (l : List Ent) (s : Int) (w : World) (hl : l.length ≤ 9223372036854775807) (he : Ents w A l) :
    Calls Try.prog 63 #[.slice A l.length c, .int .i64 s] w fun e w' => e = .returned (.int .i64 (idx (s, true) l)) ∧ Below w.heap.size w w' := by
  go_enter Try.func63, Try.ntmps63
  go_wp2_with (go_at_call 82; refine (index_any _ _ l s true _ hl he).mono ?_; rintro e w1 ⟨rfl, hb⟩)
  go_ret
  exact ⟨rfl, hb⟩

set_option maxRecDepth 100000 in
set_option maxHeartbeats 400000 in
theorem reach_any (A : Option Addr) (c : Nat) (l : List Ent) (s : Int) (w : World) (hl : l.length ≤ 9223372036854775807) (he : Ents w A l) :
    Calls Try.prog 32 #[.slice A l.length c, .int .i64 s] w fun e w' => e = .returned (.bool (reach l s)) ∧ Below w.heap.size w w' := by
  by_cases h0 : (s == 0) = true
  · have Hr := Lib.hid (show reach l s = true by simp [reach, h0])
    go_enter Try.func32, Try.ntmps32
    go_wp2
    go_ret
    exact ⟨by rw [Hr.out]; rfl, Below.refl _ _⟩
  · have h0' : (s == 0) = false := by simpa using h0
    clear h0
    have Hr := Lib.hid (show reach l s = decide (0 ≤ idx (s, true) l) by simp [reach, h0'])
    go_enter Try.func32, Try.ntmps32
    go_wp2_with (go_at_call 63; refine (at_any _ _ l s _ hl he).mono ?_; rintro e w1 ⟨rfl, hb⟩)
    go_ret
    exact ⟨by rw [Hr.out]; rfl, hb⟩

end Go.Proofs.Ytaneokplagdcfaa
