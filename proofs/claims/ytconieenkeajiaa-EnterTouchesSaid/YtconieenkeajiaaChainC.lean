/- The walks of the reference for chains: Area, Reach, Parent, Above, Push, Pop, Same. -/
import Derived.Test.YtconieenkeajiaaChainB
namespace Go.Proofs.Ytconieenkeajiaa
open Go.RowKit

@[go_sem high] theorem neqEnt (w : World) (s s' : Int) (x x' : Bool) : (binOp .neq 87 (.agg #[.int .i64 s, .bool x]) (.agg #[.int .i64 s', .bool x'])).run Try.prog w = .ok (.bool !(s == s' && x == x')) w := by
  rw [run_neq_struct, run_equalIn_agg _ _ _ _ _ undEnt stoodEnt]
  simp [Op.eqFields, go_sem, intEql, boolEql]
  by_cases h : s = s' <;> by_cases h' : x = x' <;> simp [h, h']

set_option maxRecDepth 100000 in
set_option maxHeartbeats 400000 in
theorem rarea_any (A : Option Addr) (c : Nat) (l : List Ent) (w : World) (hl : l.length ≤ 9223372036854775807) (he : Ents w A l) :
    Calls Try.prog 62 #[.slice A l.length c] w fun e w' => e = .returned (.int .i64 (area l)) ∧ w' = w := by
  rcases List.eq_nil_or_concat l with rfl | ⟨l', ⟨s, x⟩, rfl⟩
  · go_enter Try.func62, Try.ntmps62
    go_wp2
    go_ret
    exact ⟨rfl, rfl⟩
  · rw [show (l'.concat (s, x)) = l' ++ [(s, x)] by simp] at *
    obtain ⟨b, off, rfl, _, hc⟩ := he.at_ (by simp)
    obtain ⟨h0, h1⟩ := hc l'.length s x (by simp)
    have Ha := Lib.hid (show area (l' ++ [(s, x)]) = s by simp [area])
    clear hc he
    rw [List.length_append, List.length_singleton] at *
    go_enter Try.func62, Try.ntmps62
    go_wp2
    go_ret
    exact ⟨by rw [Ha.out]; rfl, rfl⟩

theorem not_hit {l : List Ent} {k : Nat} {s s' : Int} {x' : Bool} (hv : l[k]? = some (s', x')) (hn : ∀ j, j < k → l[j]? ≠ some (s, true)) (h : x' = false ∨ (s' == s) = false) :
    ∀ j, j < k + 1 → l[j]? ≠ some (s, true) := by
  intro j hj
  rcases Nat.lt_or_ge j k with h' | h'
  · exact hn j h'
  · obtain rfl : j = k := by omega
    rw [hv]
    intro e
    simp only [Option.some.injEq, Prod.mk.injEq] at e
    rcases h with h | h
    · rw [h] at e; simp at e
    · simp [e] at h

set_option maxRecDepth 100000 in
set_option maxHeartbeats 400000 in
theorem rreach_any (A : Option Addr) (c : Nat) (l : List Ent) (s : Int) (w : World) (hl : l.length ≤ 9223372036854775807) (he : Ents w A l) :
    Calls Try.prog 79 #[.slice A l.length c, .int .i64 s] w fun e w' => e = .returned (.bool (reach l s)) ∧ w' = w := by
  go_enter Try.func79, Try.ntmps79
  go_wp2
  go_loop [5] (fun t => ∃ k : Nat, k ≤ l.length ∧ t = .int .i64 k ∧ (∀ j, j < k → l[j]? ≠ some (s, true)))
    (fun t => l.length - (intOf t).toNat)
  case atStart => exact ⟨0, Nat.zero_le _, rfl, by simp⟩
  case round =>
    obtain ⟨k, hk, rfl, hn⟩ := hrel
    by_cases hlt : k < l.length
    · obtain ⟨b, off, rfl, hb, hc⟩ := he.at_ (by omega)
      obtain ⟨s', x', hv⟩ : ∃ s' x', l[k]? = some (s', x') := ⟨_, _, List.getElem?_eq_getElem hlt⟩
      obtain ⟨h0, h1⟩ := hc k s' x' hv
      have Hn := Lib.hid hn
      have Hv := Lib.hid hv
      clear hn hv hc he
      cases x' with
      | false =>
        go_wp2
        go_round
        case rel => exact ⟨k + 1, hlt, by go_num, not_hit Hv.out Hn.out (.inl rfl)⟩
        case measure => simp [intOf]; omega
      | true =>
        by_cases heq : (s' == s) = true
        · go_wp2
          go_ret
          simp only [beq_iff_eq] at heq
          subst heq
          exact ⟨by rw [reach, idx_some _ _ k Hv.out Hn.out]; simp, rfl⟩
        · have hne : (s' == s) = false := by simpa using heq
          clear heq
          go_wp2
          go_round
          case rel => exact ⟨k + 1, hlt, by go_num, not_hit Hv.out Hn.out (.inr hne)⟩
          case measure => simp [intOf]; omega
    · have Hr := Lib.hid (show reach l s = (s == 0) by rw [reach, idx_none _ _ (fun j hj => hn j (by omega))]; simp)
      clear hn
      go_wp2
      go_ret
      exact ⟨by rw [Hr.out]; rfl, rfl⟩

end Go.Proofs.Ytconieenkeajiaa
