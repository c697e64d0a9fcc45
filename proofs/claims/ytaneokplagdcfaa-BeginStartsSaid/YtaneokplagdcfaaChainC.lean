/- The walks of the reference for chains: Area, Reach, Parent, Above, Push, Pop, Same. -/
import Derived.Test.YtaneokplagdcfaaChainB
namespace Go.Proofs.Ytaneokplagdcfaa
open Go.RowKit

@[go_sem high] theorem neqEnt (w : World) (s s' : Int) (x x' : Bool) : (binOp .neq 66 (.agg #[.int .i64 s, .bool x]) (.agg #[.int .i64 s', .bool x'])).run Try.prog w = .ok (.bool !(s == s' && x == x')) w := by
  rw [run_neq_struct, run_equalIn_agg _ _ _ _ _ undEnt stoodEnt]
  simp [Op.eqFields, go_sem, intEql, boolEql]
  by_cases h : s = s' <;> by_cases h' : x = x' <;> simp [h, h']

set_option maxRecDepth 100000 in
set_option maxHeartbeats 400000 in
theorem rarea_any (A : Option Addr) (c : Nat) (l : List Ent) (w : World) (hl : l.length ≤ 9223372036854775807) (he : Ents w A l) :
    Calls Try.prog 20 #[.slice A l.length c] w fun e w' => e = .returned (.int .i64 (area l)) ∧ w' = w := by
  rcases List.eq_nil_or_concat l with rfl | ⟨l', ⟨s, x⟩, rfl⟩
  · go_enter Try.func20, Try.ntmps20
    go_wp2
    go_ret
    exact ⟨rfl, rfl⟩
  · rw [show (l'.concat (s, x)) = l' ++ [(s, x)] by simp] at *
    obtain ⟨b, off, rfl, _, hc⟩ := he.at_ (by simp)
    obtain ⟨h0, h1⟩ := hc l'.length s x (by simp)
    have Ha := Lib.hid (show area (l' ++ [(s, x)]) = s by simp [area])
    clear hc he
    rw [List.length_append, List.length_singleton] at *
    go_enter Try.func20, Try.ntmps20
    go_wp2
    go_ret
    exact ⟨by rw [Ha.out]; rfl, rfl⟩

theorem not_hit {l : List Ent} {k : Nat} {s s' : Int} {x' : Bool} (hv : l[k]? = some (s', x')) (hn : ∀ j, j < k → l[j]? ≠ some (s, true)) (h : x' = false ∨ (s' == s) = false) :
    ∀ j, j < k + 1 → l[j]? ≠ some (s, true) := by
  intro j hj
  rcases Nat.lt_or_ge j k with h' | h'
  · exact hn j h'
  · obtain rfl : j = k := by omega
    rw [hv]
    intro e
    simp only [Option.some.injEq, Prod.mk.injEq] at e
    rcases h with h | h
    · rw [h] at e; simp at e
    · simp [e] at h

set_option maxRecDepth 100000 in
set_option maxHeartbeats 400000 in
theorem rreach_any (A : Option Addr) (c : Nat) (l : List Ent) (s : Int) (w : World) (hl : l.length ≤ 9223372036854775807) (he : Ents w A l) :
    Calls Try.prog 21 #[.slice A l.length c, .int .i64 s] w fun e w' => e = .returned (.bool (reach l s)) ∧ w' = w := by
  go_enter Try.func21, Try.ntmps21
  go_wp2
  go_loop [5] (fun t => ∃ k : Nat, k ≤ l.length ∧ t = .int .i64 k ∧ (∀ j, j < k → l[j]? ≠ some (s, true)))
    (fun t => l.length - (intOf t).toNat)
  case atStart => exact ⟨0, Nat.zero_le _, rfl, by simp⟩
  case round =>
    obtain ⟨k, hk, rfl, hn⟩ := hrel
    by_cases hlt : k < l.length
    · obtain ⟨b, off, rfl, hb, hc⟩ := he.at_ (by omega)
      obtain ⟨s', x', hv⟩ : ∃ s' x', l[k]? = some (s', x') := ⟨_, _, List.getElem?_eq_getElem hlt⟩
      obtain ⟨h0, h1⟩ := hc k s' x' hv
      have Hn := Lib.hid hn
      have Hv := Lib.hid hv
      clear hn hv hc he
      cases x' with
      | false =>
        go_wp2
        go_round
        case rel => exact ⟨k + 1, hlt, by go_num, not_hit Hv.out Hn.out (.inl rfl)⟩
        case measure => simp [intOf]; omega
      | true =>
        by_cases heq : (s' == s) = true
        · go_wp2
          go_ret
          simp only [beq_iff_eq] at heq
          subst heq
          exact ⟨by rw [reach, idx_some _ _ k Hv.out Hn.out]; simp, rfl⟩
        · have hne : (s' == s) = false := by simpa using heq
          clear heq
          go_wp2
          go_round
          case rel => exact ⟨k + 1, hlt, by go_num, not_hit Hv.out Hn.out (.inr hne)⟩
          case measure => simp [intOf]; omega
    · have Hr := Lib.hid (show reach l s = (s == 0) by rw [reach, idx_none _ _ (fun j hj => hn j (by omega))]; simp)
      clear hn
      go_wp2
      go_ret
      exact ⟨by rw [Hr.out]; rfl, rfl⟩

set_option maxRecDepth 100000 in
set_option maxHeartbeats 400000 in
theorem rpar_any (A : Option Addr) (c : Nat) (l : List Ent) (s : Int) (w : World) (hl : l.length ≤ 9223372036854775807) (hcap : l.length ≤ c) (he : Ents w A l) :
    Calls Try.prog 22 #[.slice A l.length c, .int .i64 s] w fun e w' => e = .returned (.int .i64 (par l s)) ∧ w' = w := by
  go_enter Try.func22, Try.ntmps22
  go_wp2
  go_loop [5] (fun t => ∃ k : Nat, k ≤ l.length ∧ t = .int .i64 k ∧ (∀ j, j < k → l[j]? ≠ some (s, true)))
    (fun t => l.length - (intOf t).toNat)
  case atStart => exact ⟨0, Nat.zero_le _, rfl, by simp⟩
  case round =>
    obtain ⟨k, hk, rfl, hn⟩ := hrel
    by_cases hlt : k < l.length
    · have he' := he.take k
      obtain ⟨b, off, rfl, hb, hc⟩ := he.at_ (by omega)
      obtain ⟨s', x', hv⟩ : ∃ s' x', l[k]? = some (s', x') := ⟨_, _, List.getElem?_eq_getElem hlt⟩
      obtain ⟨h0, h1⟩ := hc k s' x' hv
      have Hlen := Lib.hid (show k = (l.take k).length by rw [List.length_take]; omega)
      have Hn := Lib.hid hn
      have Hv := Lib.hid hv
      clear hn hv hc he
      cases x' with
      | false =>
        go_wp2
        go_round
        case rel => exact ⟨k + 1, hlt, by go_num, not_hit Hv.out Hn.out (.inl rfl)⟩
        case measure => simp [intOf]; omega
      | true =>
        by_cases heq : (s' == s) = true
        · go_wp2_with (go_at_call 20
                       have ha := rarea_any (some ⟨b, off, none⟩) c (l.take k) w (by rw [List.length_take]; omega) he'
                       rw [← Hlen.out] at ha
                       refine ha.mono ?_
                       clear ha
                       rintro e w2 ⟨rfl, rfl⟩)
          go_ret
          simp only [beq_iff_eq] at heq
          subst heq
          exact ⟨by rw [par, idx_some _ _ k Hv.out Hn.out, if_neg (by omega), Int.toNat_natCast]; rfl, rfl⟩
        · have hne : (s' == s) = false := by simpa using heq
          clear heq
          go_wp2
          go_round
          case rel => exact ⟨k + 1, hlt, by go_num, not_hit Hv.out Hn.out (.inr hne)⟩
          case measure => simp [intOf]; omega
    · have Hr := Lib.hid (show par l s = -1 by rw [par, idx_none _ _ (fun j hj => hn j (by omega))]; rfl)
      clear hn
      go_wp2
      go_ret
      exact ⟨by rw [Hr.out]; rfl, rfl⟩

set_option maxRecDepth 100000 in
set_option maxHeartbeats 400000 in
theorem rabove_any (A : Option Addr) (c : Nat) (l : List Ent) (s b : Int) (w : World) (hl : l.length ≤ 9223372036854775807) (hcap : l.length ≤ c) (he : Ents w A l) :
    Calls Try.prog 91 #[.slice A l.length c, .int .i64 s, .int .i64 b] w fun e w' => e = .returned (.bool (above l s b)) ∧ w' = w := by
  by_cases h0 : (s == 0) = true
  · have Hr := Lib.hid (show above l s b = true by simp [above, h0])
    go_enter Try.func91, Try.ntmps91
    go_wp2
    go_ret
    exact ⟨by rw [Hr.out]; rfl, rfl⟩
  · have h0' : (s == 0) = false := by simpa using h0
    clear h0
    have hr : above l s b = up l s 9 b := by simp [above, h0']
    by_cases h1 : (s == b) = true
    · have Hr := Lib.hid (show above l s b = true by rw [hr]; simp only [beq_iff_eq] at h1; simp [up, h1])
      clear hr
      go_enter Try.func91, Try.ntmps91
      go_wp2
      go_ret
      exact ⟨by rw [Hr.out]; rfl, rfl⟩
    · have h1' : (s == b) = false := by simpa using h1
      have h1'' : (b == s) = false := by simp at h1 ⊢; exact fun e => h1 e.symm
      have Hr := Lib.hid (show above l s b = up l s 8 (par l b) by rw [hr, up_ref, h1'']; rfl)
      clear hr h1 h1''
      go_enter Try.func91, Try.ntmps91
      go_wp2
      go_loop [7, 8] (fun t i => ∃ (k : Nat) (q : Int), k ≤ 8 ∧ i = .int .i64 k ∧ t = .int .i64 q ∧ up l s (8 - k) (par l q) = up l s 8 (par l b))
        (fun _ i => 8 - (intOf i).toNat)
      case atStart => exact ⟨0, b, by omega, rfl, rfl, rfl⟩
      case round =>
        obtain ⟨k, q, hk, rfl, rfl, hu⟩ := hrel
        by_cases hlt : k < 8
        · obtain ⟨m, hm⟩ : ∃ m, 8 - k = m + 1 := ⟨7 - k, by omega⟩
          have hm' : 8 - (k + 1) = m := by omega
          rw [hm, up_ref] at hu
          have Hu := Lib.hid hu
          have Hm := Lib.hid hm'
          clear hu hm hm'
          by_cases heq : (par l q == s) = true
          · go_wp2_with (go_at_call 22; refine (rpar_any _ _ l q _ hl hcap he).mono ?_; rintro e w1 ⟨rfl, rfl⟩)
            go_ret
            exact ⟨by rw [Hr.out, ← Hu.out, heq]; rfl, rfl⟩
          · have hne : (par l q == s) = false := by simpa using heq
            clear heq
            go_wp2_with (go_at_call 22; refine (rpar_any _ _ l q _ hl hcap he).mono ?_; rintro e w1 ⟨rfl, rfl⟩)
            go_round
            case rel => exact ⟨k + 1, par l q, by omega, by go_num, rfl, by rw [Hm.out, ← Hu.out, hne]; rfl⟩
            case measure => simp [intOf]; omega
        · obtain rfl : k = 8 := by omega
          have Hu := Lib.hid hu
          clear hu
          go_wp2
          go_ret
          exact ⟨by rw [Hr.out, ← Hu.out]; rfl, rfl⟩

end Go.Proofs.Ytaneokplagdcfaa
