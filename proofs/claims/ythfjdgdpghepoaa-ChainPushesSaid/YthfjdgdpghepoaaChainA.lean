/- The walks of package chain's readers (Area, at, Reach, Parent, Above) and of slices.Index at entries. -/
import Derived.Test.YthfjdgdpghepoaaChainPlain
namespace Go.Proofs.Ythfjdgdpghepoaa
open Go.RowKit

@[go_sem] theorem eqgEnt : Try.prog.eqGuardType Try.prog.depth 34 = false := by kernel_rfl
theorem stoodEnt : Try.prog.stoodInHeld 34 = false := by kernel_rfl
theorem undEnt : Try.prog.underlying 34 = some (.struct (Try.prog.fieldsOf 34)) := by kernel_rfl
theorem intEql (d : Nat) (s s' : Int) (w : World) : (Op.equalIn (d + 1) 3 (.int .i64 s) (.int .i64 s')).run Try.prog w = .ok (s == s') w := run_equalIn_int w d _ _ _ _ _ Try.underlying3
theorem boolEql (d : Nat) (s s' : Bool) (w : World) : (Op.equalIn (d + 1) 4 (.bool s) (.bool s')).run Try.prog w = .ok (s == s') w := run_equalIn_bool' w d _ _ _ Try.underlying4

@[go_sem high] theorem eqlEnt (w : World) (s s' : Int) (x x' : Bool) : (binOp .eql 34 (.agg #[.int .i64 s, .bool x]) (.agg #[.int .i64 s', .bool x'])).run Try.prog w = .ok (.bool (s == s' && x == x')) w := by
  rw [run_eql_struct, run_equalIn_agg _ _ _ _ _ undEnt stoodEnt]
  simp [Op.eqFields, go_sem, intEql, boolEql]
  by_cases h : s = s' <;> by_cases h' : x = x' <;> simp [h, h']

set_option maxHeartbeats 400000 in
theorem area_any (A : Option Addr) (c : Nat) (l : List Ent) (w : World) (hl : l.length ≤ 9223372036854775807) (he : Ents w A l) :
    Calls Try.prog 13 #[.slice A l.length c] w fun e w' => e = .returned (.int .i64 (area l)) ∧ w' = w := by
  rcases List.eq_nil_or_concat l with rfl | ⟨l', ⟨s, x⟩, rfl⟩
  · go_enter Try.func13, Try.ntmps13
    go_wp2
    go_ret
    exact ⟨rfl, rfl⟩
  · rw [show (l'.concat (s, x)) = l' ++ [(s, x)] by simp] at *
    obtain ⟨b, off, rfl, _, hc⟩ := he.at_ (by simp)
    obtain ⟨h0, h1⟩ := hc l'.length s x (by simp)
    have Ha := Lib.hid (show area (l' ++ [(s, x)]) = s by simp [area])
    clear hc he
    rw [List.length_append, List.length_singleton] at *
    go_enter Try.func13, Try.ntmps13
    go_wp2
    go_ret
    exact ⟨by rw [Ha.out]; rfl, rfl⟩

set_option maxHeartbeats 400000 in
theorem index_any (A : Option Addr) (c : Nat) (l : List Ent) (s : Int) (x : Bool) (w : World) (hl : l.length ≤ 9223372036854775807) (he : Ents w A l) :
    Calls Try.prog 26 #[.slice A l.length c, .agg #[.int .i64 s, .bool x]] w fun e w' => e = .returned (.int .i64 (idx (s, x) l)) ∧ Below w.heap.size w w' := by
  go_enter Try.func26, Try.ntmps26
  go_wp2
  go_loopw [5, 8] (fun _ t wr => ∃ k nq : Nat, k ≤ l.length ∧ t = .int .i64 k ∧ (∀ j, j < k → l[j]? ≠ some (s, x)) ∧ wr = (w.alloc (.cells #[.int .i64 s, .bool x] 34)).drewN nq)
    (fun _ t _ => l.length - (intOf t).toNat)
  case atStart => exact ⟨0, 0, Nat.zero_le _, rfl, by simp, rfl⟩
  case round =>
    obtain ⟨k, nq, hk, rfl, hn, rfl⟩ := hrel
    by_cases hlt : k < l.length
    · obtain ⟨b, off, rfl, hb, hc⟩ := he.at_ (by omega)
      obtain ⟨s', x', hv⟩ : ∃ s' x', l[k]? = some (s', x') := ⟨_, _, List.getElem?_eq_getElem hlt⟩
      obtain ⟨h0, h1⟩ := hc k s' x' hv
      have Hn := Lib.hid hn
      have Hv := Lib.hid hv
      clear hn hv hc he
      by_cases heq : (s == s' && x == x') = true
      · go_wp2
        go_quiet (fail)
        go_wp2
        go_ret
        simp only [Bool.and_eq_true, beq_iff_eq] at heq
        obtain ⟨rfl, rfl⟩ := heq
        exact ⟨by rw [idx_some _ _ k Hv.out Hn.out]; rfl, below_drewN (below_drewN ((Below.refl _ _).alloc (Nat.le_refl _) _) _) _⟩
      · have hne : (s == s' && x == x') = false := by simpa using heq
        clear heq
        go_wp2
        go_quiet (fail)
        go_wp2
        go_roundw
        case rel =>
          refine ⟨k + 1, _, hlt, by go_num, fun j hj => ?_, rfl⟩
          rcases Nat.lt_or_ge j k with h | h
          · exact Hn.out j h
          · obtain rfl : j = k := by omega
            rw [Hv.out]
            intro e
            simp only [Option.some.injEq, Prod.mk.injEq] at e
            simp [e] at hne
        case measure => simp [intOf]; omega
    · have Hn := Lib.hid hn
      clear hn
      go_wp2
      go_ret
      exact ⟨by rw [idx_none _ _ (fun j hj => Hn.out j (by omega))]; rfl, below_drewN ((Below.refl _ _).alloc (Nat.le_refl _) _) _⟩

set_option maxHeartbeats 400000 in
theorem at_any (A : Option Addr) (c : Nat) (l : List Ent) (s : Int) (w : World) (hl : l.length ≤ 9223372036854775807) (he : Ents w A l) :
    Calls Try.prog 24 #[.slice A l.length c, .int .i64 s] w fun e w' => e = .returned (.int .i64 (idx (s, true) l)) ∧ Below w.heap.size w w' := by
  go_enter Try.func24, Try.ntmps24
  go_wp2_with (go_at_call 26; refine (index_any _ _ l s true _ hl he).mono ?_; rintro e w1 ⟨rfl, hb⟩)
  go_ret
  exact ⟨rfl, hb⟩

set_option maxHeartbeats 400000 in
theorem reach_any (A : Option Addr) (c : Nat) (l : List Ent) (s : Int) (w : World) (hl : l.length ≤ 9223372036854775807) (he : Ents w A l) :
    Calls Try.prog 11 #[.slice A l.length c, .int .i64 s] w fun e w' => e = .returned (.bool (reach l s)) ∧ Below w.heap.size w w' := by
  by_cases h0 : (s == 0) = true
  · have Hr := Lib.hid (show reach l s = true by simp [reach, h0])
    go_enter Try.func11, Try.ntmps11
    go_wp2
    go_ret
    exact ⟨by rw [Hr.out]; rfl, Below.refl _ _⟩
  · have h0' : (s == 0) = false := by simpa using h0
    clear h0
    have Hr := Lib.hid (show reach l s = decide (0 ≤ idx (s, true) l) by simp [reach, h0'])
    go_enter Try.func11, Try.ntmps11
    go_wp2_with (go_at_call 24; refine (at_any _ _ l s _ hl he).mono ?_; rintro e w1 ⟨rfl, hb⟩)
    go_ret
    exact ⟨by rw [Hr.out]; rfl, hb⟩

set_option maxHeartbeats 400000 in
theorem par_any (A : Option Addr) (c : Nat) (l : List Ent) (s : Int) (w : World) (hl : l.length ≤ 9223372036854775807) (hc : l.length ≤ c) (he : Ents w A l) :
    Calls Try.prog 14 #[.slice A l.length c, .int .i64 s] w fun e w' => e = .returned (.int .i64 (par l s)) ∧ Below w.heap.size w w' := by
  rcases idx_cases (s, true) l with ⟨hi, _⟩ | ⟨k, hk, hi, _, _⟩
  · have Hp := Lib.hid (show par l s = -1 by simp [par, hi])
    have Hi := Lib.hid hi
    clear hi
    go_enter Try.func14, Try.ntmps14
    go_wp2_with (go_at_call 24; refine (at_any _ _ l s _ hl he).mono ?_; rintro e w1 ⟨rfl, hb⟩; rw [Hi.out])
    go_ret
    exact ⟨by rw [Hp.out]; rfl, hb⟩
  · have Hp := Lib.hid (show par l s = area (l.take k) by rw [par, hi, if_neg (by omega), Int.toNat_natCast])
    have Hi := Lib.hid hi
    have Hlen := Lib.hid (show k = (l.take k).length by rw [List.length_take]; omega)
    clear hi
    go_enter Try.func14, Try.ntmps14
    go_wp2_with (first
      | (go_at_call 24; refine (at_any _ _ l s _ hl he).mono ?_; rintro e w1 ⟨rfl, hb⟩; rw [Hi.out])
      | (go_at_call 13
         have ha := area_any A k (l.take k) w1 (by rw [List.length_take]; omega) ((he.below hb).take k)
         rw [← Hlen.out] at ha
         refine ha.mono ?_
         clear ha
         rintro e w2 ⟨rfl, rfl⟩))
    go_ret
    exact ⟨by rw [Hp.out]; rfl, hb⟩

set_option maxHeartbeats 400000 in
theorem above_any (A : Option Addr) (c : Nat) (l : List Ent) (s b : Int) (w : World) (hl : l.length ≤ 9223372036854775807) (hc : l.length ≤ c) (he : Ents w A l) :
    Calls Try.prog 10 #[.slice A l.length c, .int .i64 s, .int .i64 b] w fun e w' => e = .returned (.bool (above l s b)) ∧ Below w.heap.size w w' := by
  by_cases h0 : (s == 0) = true
  · have Hr := Lib.hid (show above l s b = true by simp [above, h0])
    go_enter Try.func10, Try.ntmps10
    go_wp2
    go_ret
    exact ⟨by rw [Hr.out]; rfl, Below.refl _ _⟩
  · have h0' : (s == 0) = false := by simpa using h0
    clear h0
    have Hr := Lib.hid (show above l s b = up l s 9 b by simp [above, h0'])
    go_enter Try.func10, Try.ntmps10
    go_wp2
    go_loopw [2, 9] (fun t i wr => ∃ (k : Nat) (q : Int), k ≤ 9 ∧ i = .int .i64 k ∧ t = .int .i64 q ∧ up l s (9 - k) q = up l s 9 b ∧ Below w.heap.size w wr)
      (fun _ i _ => 9 - (intOf i).toNat)
    case atStart => exact ⟨0, b, by omega, rfl, rfl, rfl, Below.refl _ _⟩
    case round =>
      obtain ⟨k, q, hk, rfl, rfl, hu, hb⟩ := hrel
      by_cases hlt : k < 9
      · obtain ⟨m, hm⟩ : ∃ m, 9 - k = m + 1 := ⟨8 - k, by omega⟩
        have hm' : 9 - (k + 1) = m := by omega
        rw [hm, up_ref] at hu
        have Hu := Lib.hid hu
        have Hm := Lib.hid hm'
        clear hu hm hm'
        by_cases heq : (q == s) = true
        · go_wp2
          go_ret
          exact ⟨by rw [Hr.out, ← Hu.out, heq]; rfl, hb⟩
        · have hne : (q == s) = false := by simpa using heq
          clear heq
          go_wp2_with (go_at_call 14; refine (par_any _ _ l q _ hl hc (he.below hb)).mono ?_; rintro e w1 ⟨rfl, hb1⟩)
          go_roundw
          case rel => exact ⟨k + 1, par l q, by omega, by go_num, rfl, by rw [Hm.out, ← Hu.out, hne]; rfl, below_only hb hb1⟩
          case measure => simp [intOf]; omega
      · obtain rfl : k = 9 := by omega
        have Hu := Lib.hid hu
        clear hu
        go_wp2
        go_ret
        exact ⟨by rw [Hr.out, ← Hu.out]; rfl, hb⟩

end Go.Proofs.Ythfjdgdpghepoaa
