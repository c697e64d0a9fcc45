/- The walks of slices.IndexFunc at ground's two searches; (*Ground).Free; New. -/
import Derived.Test.YtcicpfhbpcdjcaaGroundA
namespace Go.Proofs.Ytcicpfhbpcdjcaa
open Go.RowKit

def idxI : Option Nat → Int
  | none => -1
  | some i => (i : Nat)

theorem old_cell {w w' : World} (h : Below w.heap.size w w') {p : Addr} {v : Value} (hv : w.cell? p = some v) : w'.cell? p = some v :=
  (h.cell (World.block_lt_of_cell? w p hv)).trans hv

set_option maxHeartbeats 400000 in
theorem find_carve (A : Option Addr) (c : Nat) (l : List Ext) (B : Nat) (n : Int) (w : World) (hl : l.length ≤ 1048576) (he : Exts w A l) (hB : w.cell? ⟨B, 0, none⟩ = some (.int .i64 n)) :
    Calls Try.prog 65 #[.slice A l.length c, .func (.func 66) #[] #[.pointer (some ⟨B, 0, none⟩)]] w
      fun e w' => e = .returned (.int .i64 (idxI (carveAt n l))) ∧ Below w.heap.size w w' := by
  have HB := Lib.hid hB
  clear hB
  go_enter Try.func65, Try.ntmps65
  go_wp2
  go_loopw [5, 8] (fun _ t wr => ∃ k : Nat, k ≤ l.length ∧ t = .int .i64 k ∧ (∀ j y, j < k → l[j]? = some y → (fun x : Ext => decide (n ≤ x.2)) y = false) ∧ Below w.heap.size w wr)
    (fun _ t _ => l.length - (intOf t).toNat)
  case atStart => exact ⟨0, Nat.zero_le _, rfl, by omega, Below.refl _ _⟩
  case round =>
    obtain ⟨k, hk, rfl, hn, hb⟩ := hrel
    have Hn := Lib.hid hn
    clear hn
    by_cases hlt : k < l.length
    · obtain ⟨b, off, rfl, hbl, hc⟩ := exts_at he (by omega)
      obtain ⟨x, hv⟩ : ∃ x, l[k]? = some x := ⟨_, List.getElem?_eq_getElem hlt⟩
      obtain ⟨h0, h1⟩ := hc k x hv
      replace h0 := old_cell hb h0
      replace h1 := old_cell hb h1
      have hB := old_cell hb HB.out
      
      have Hv := Lib.hid hv
      clear hv hc he 
      cases hp : decide (n ≤ x.2) with
      | true =>
        go_wp2_with (go_at_call 66; refine (carve1_any x B n _ hB).mono ?_; rintro e w1 ⟨rfl, hb1⟩; rw [hp])
        go_ret
        exact ⟨by rw [show carveAt n l = some k from findIdx_mk Hv.out hp Hn.out]; rfl, below_only hb hb1⟩
      | false =>
        go_wp2_with (go_at_call 66; refine (carve1_any x B n _ hB).mono ?_; rintro e w1 ⟨rfl, hb1⟩; rw [hp])
        go_roundw
        case rel =>
          refine ⟨k + 1, hlt, by go_num, fun j y hj hy => ?_, below_only hb hb1⟩
          rcases Nat.lt_or_ge j k with h | h
          · exact Hn.out j y h hy
          · obtain rfl : j = k := by omega
            rw [Hv.out] at hy
            injection hy with hy
            subst hy
            exact hp
        case measure => simp [intOf]; omega
    · go_wp2
      go_ret
      refine ⟨?_, hb⟩
      have : carveAt n l = none := by
        cases h : carveAt n l with
        | none => rfl
        | some i =>
          obtain ⟨y, h1, h2, h3, _⟩ := findIdx_some h
          have := Hn.out i y (by omega) h1
          rw [h3] at this
          cases this
      rw [this]
      rfl

set_option maxHeartbeats 400000 in
theorem find_give (A : Option Addr) (c : Nat) (l : List Ext) (B : Nat) (n : Int) (w : World) (hl : l.length ≤ 1048576) (he : Exts w A l) (hB : w.cell? ⟨B, 0, none⟩ = some (.int .i64 n)) (hbd : ∀ x ∈ l, -9223372036854775808 ≤ x.1 + x.2 ∧ x.1 + x.2 ≤ 9223372036854775807) :
    Calls Try.prog 65 #[.slice A l.length c, .func (.func 68) #[] #[.pointer (some ⟨B, 0, none⟩)]] w
      fun e w' => e = .returned (.int .i64 (idxI (giveAt n l))) ∧ Below w.heap.size w w' := by
  have HB := Lib.hid hB
  clear hB
  go_enter Try.func65, Try.ntmps65
  go_wp2
  go_loopw [5, 8] (fun _ t wr => ∃ k : Nat, k ≤ l.length ∧ t = .int .i64 k ∧ (∀ j y, j < k → l[j]? = some y → (fun x : Ext => decide (n < x.1 + x.2)) y = false) ∧ Below w.heap.size w wr)
    (fun _ t _ => l.length - (intOf t).toNat)
  case atStart => exact ⟨0, Nat.zero_le _, rfl, by omega, Below.refl _ _⟩
  case round =>
    obtain ⟨k, hk, rfl, hn, hb⟩ := hrel
    have Hn := Lib.hid hn
    clear hn
    by_cases hlt : k < l.length
    · obtain ⟨b, off, rfl, hbl, hc⟩ := exts_at he (by omega)
      obtain ⟨x, hv⟩ : ∃ x, l[k]? = some x := ⟨_, List.getElem?_eq_getElem hlt⟩
      obtain ⟨h0, h1⟩ := hc k x hv
      replace h0 := old_cell hb h0
      replace h1 := old_cell hb h1
      have hB := old_cell hb HB.out
      have hbx := hbd x (List.mem_of_getElem? hv)
      have Hv := Lib.hid hv
      clear hv hc he hbd
      cases hp : decide (n < x.1 + x.2) with
      | true =>
        go_wp2_with (go_at_call 68; refine (give1_any x B n _ hB hbx.1 hbx.2).mono ?_; rintro e w1 ⟨rfl, hb1⟩; rw [hp])
        go_ret
        exact ⟨by rw [show giveAt n l = some k from findIdx_mk Hv.out hp Hn.out]; rfl, below_only hb hb1⟩
      | false =>
        go_wp2_with (go_at_call 68; refine (give1_any x B n _ hB hbx.1 hbx.2).mono ?_; rintro e w1 ⟨rfl, hb1⟩; rw [hp])
        go_roundw
        case rel =>
          refine ⟨k + 1, hlt, by go_num, fun j y hj hy => ?_, below_only hb hb1⟩
          rcases Nat.lt_or_ge j k with h | h
          · exact Hn.out j y h hy
          · obtain rfl : j = k := by omega
            rw [Hv.out] at hy
            injection hy with hy
            subst hy
            exact hp
        case measure => simp [intOf]; omega
    · go_wp2
      go_ret
      refine ⟨?_, hb⟩
      have : giveAt n l = none := by
        cases h : giveAt n l with
        | none => rfl
        | some i =>
          obtain ⟨y, h1, h2, h3, _⟩ := findIdx_some h
          have := Hn.out i y (by omega) h1
          rw [h3] at this
          cases this
      rw [this]
      rfl

end Go.Proofs.Ytcicpfhbpcdjcaa
