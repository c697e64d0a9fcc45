/- The walks of the reference's Push, Pop and Same for chains, and of the law's 'few'. -/
import Derived.Test.YtconieenkeajiaaChainC
namespace Go.Proofs.Ytconieenkeajiaa
open Go.RowKit

set_option maxRecDepth 100000 in
set_option maxHeartbeats 400000 in
theorem same_any (A B : Option Addr) (c d : Nat) (l m : List Ent) (w : World) (hl : l.length ≤ 9223372036854775807) (hm : m.length ≤ 9223372036854775807) (ha : Ents w A l) (hb : Ents w B m) :
    Calls Try.prog 41 #[.slice A l.length c, .slice B m.length d] w fun e w' => e = .returned (.bool (decide (l = m))) ∧ Below w.heap.size w w' := by
  by_cases hlen : l.length = m.length
  · have hlen' : ((l.length : Int) != (m.length : Int)) = false := by simp [hlen]
    have Hlen := Lib.hid hlen
    clear hlen
    go_enter Try.func41, Try.ntmps41
    go_wp2
    go_loopw [5] (fun t wr => ∃ k nq : Nat, k ≤ l.length ∧ t = .int .i64 k ∧ (∀ j, j < k → l[j]? = m[j]?) ∧ wr = w.drewN nq)
      (fun t _ => l.length - (intOf t).toNat)
    case atStart => exact ⟨0, 0, Nat.zero_le _, rfl, by simp, rfl⟩
    case round =>
      obtain ⟨k, nq, hk, rfl, hn, rfl⟩ := hrel
      by_cases hlt : k < l.length
      · have hlt' : k < m.length := by rw [← Hlen.out]; exact hlt
        obtain ⟨b, off, rfl, hb0, hc⟩ := ha.at_ (by omega)
        obtain ⟨b', off', rfl, hb0', hc'⟩ := hb.at_ (by omega)
        obtain ⟨s, x, hv⟩ : ∃ s x, l[k]? = some (s, x) := ⟨_, _, List.getElem?_eq_getElem hlt⟩
        obtain ⟨s', x', hv'⟩ : ∃ s' x', m[k]? = some (s', x') := ⟨_, _, List.getElem?_eq_getElem hlt'⟩
        obtain ⟨h0, h1⟩ := hc k s x hv
        obtain ⟨h2, h3⟩ := hc' k s' x' hv'
        have Hn := Lib.hid hn
        have Hv := Lib.hid hv
        have Hv' := Lib.hid hv'
        clear hn hv hv' hc hc' ha hb
        by_cases heq : (s == s' && x == x') = true
        · go_wp2
          go_quiet (fail)
          go_wp2
          go_roundw
          case rel =>
            refine ⟨k + 1, _, hlt, by go_num, fun j hj => ?_, rfl⟩
            rcases Nat.lt_or_ge j k with h | h
            · exact Hn.out j h
            · obtain rfl : j = k := by omega
              simp only [Bool.and_eq_true, beq_iff_eq] at heq
              rw [Hv.out, Hv'.out, heq.1, heq.2]
          case measure => simp [intOf]; omega
        · have hne : (s == s' && x == x') = false := by simpa using heq
          have Hd := Lib.hid (show decide (l = m) = false by
            refine decide_eq_false (fun e => heq ?_)
            subst e
            have := Hv.out.symm.trans Hv'.out
            simp only [Option.some.injEq, Prod.mk.injEq] at this
            simp [this])
          clear heq
          go_wp2
          go_quiet (fail)
          go_wp2
          go_ret
          exact ⟨by rw [Hd.out]; rfl, by repeat (first | exact Below.refl _ _ | refine below_drewN ?_ _)⟩
      · have Hd := Lib.hid (show decide (l = m) = true by
          refine decide_eq_true (List.ext_getElem? (fun j => ?_))
          have := Hlen.out
          rcases Nat.lt_or_ge j k with h | h
          · exact hn j h
          · rw [List.getElem?_eq_none (by omega), List.getElem?_eq_none (by omega)])
        clear hn
        go_wp2
        go_ret
        exact ⟨by rw [Hd.out]; rfl, by repeat (first | exact Below.refl _ _ | refine below_drewN ?_ _)⟩
  · have hlen' : ((l.length : Int) != (m.length : Int)) = true := by simp; omega
    have Hd := Lib.hid (show decide (l = m) = false from decide_eq_false (fun e => hlen (by rw [e])))
    go_enter Try.func41, Try.ntmps41
    go_wp2
    go_ret
    exact ⟨by rw [Hd.out]; rfl, Below.refl _ _⟩

end Go.Proofs.Ytconieenkeajiaa
