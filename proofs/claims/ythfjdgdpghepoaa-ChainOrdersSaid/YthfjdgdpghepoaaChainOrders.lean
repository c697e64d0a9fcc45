/- The law ChainOrders's walk. -/
import Derived.Test.YthfjdgdpghepoaaOrderPlain
namespace Go.Proofs.Ythfjdgdpghepoaa
open Go.RowKit

set_option maxRecDepth 100000 in
set_option maxHeartbeats 4000000 in
theorem chainOrders_core (A : Option Addr) (k : Nat) (l : List Ent) (a b c : Int) (w : World) (hl : l.length ≤ 9223372036854775807) (he : Ents w A l)
    (a0 : 0 ≤ a) (a1 : a ≤ 255) (b0 : 0 ≤ b) (b1 : b ≤ 255) (c0 : 0 ≤ c) (c1 : c ≤ 255) :
    Calls Try.prog 3 #[.slice A l.length k, .agg #[.int .u8 a, .int .u8 b, .int .u8 c]] w fun e w' => e = .returned (.bool true) ∧ Below w.heap.size w w' := by
  have R := row_new w #[.int .u8 a, .int .u8 b, .int .u8 c] 23
  have B : Below w.heap.size w (w.alloc (.cells #[.int .u8 a, .int .u8 b, .int .u8 c] 23)) := by go_grown
  have HR := Lib.hid R
  clear R
  go_enter Try.func3, Try.ntmps3
  go_wp2_with fail
  refine (shown_any _).mono ?_
  rintro e w1 ⟨rfl, hb⟩
  replace B := below_only B hb
  have R := row_below HR.out hb
  replace he := he.below B
  clear hb HR
  have HR := Lib.hid R
  clear R
  go_wp2_with fail
  refine (fit_any A k l _ hl he).mono ?_
  rintro e w2 ⟨v, rfl, A1, c2, rfl, hc2, hcs, _, hb⟩
  replace B := below_only B hb
  have R := row_below HR.out hb
  clear hb HR he
  obtain ⟨hgood, hlen⟩ := fit_good l
  obtain ⟨M, HM⟩ : ∃ M, Hid (fit l = M) := ⟨_, rfl⟩
  rw [HM.out] at hgood hlen hc2 hcs ⊢
  have he : Ents w2 A1 M := hcs
  have q0 : w2.cell? ⟨w.heap.size, 0, none⟩ = some (.int .u8 a) := by rw [row_cell R]; rfl
  have q1 : w2.cell? ⟨w.heap.size, 1, none⟩ = some (.int .u8 b) := by rw [row_cell R]; rfl
  have q2 : w2.cell? ⟨w.heap.size, 2, none⟩ = some (.int .u8 c) := by rw [row_cell R]; rfl
  have saa := above_self M (a % 8)
  have sza := above_zero M (a % 8)
  have Tab := Lib.hid (above_anti hgood (a % 8) (b % 8) (by omega) (by omega))
  have Tac := Lib.hid (above_trans hgood hlen (a % 8) (b % 8) (c % 8) (by omega) (by omega))
  have Tra := Lib.hid (above_reach hgood (a % 8) (b % 8) (by omega))
  have hM : M.length ≤ 9223372036854775807 := by omega
  clear hcs hgood hlen HM R
  cases hab : above M (a % 8) (b % 8) with
  | false =>
    cases hrb : reach M (b % 8) with
    | false =>
      go_wp2_with (first | (go_at_call 10; refine (above_any _ _ M _ _ _ hM hc2 he).mono ?_; rintro e w9 ⟨rfl, hb⟩; replace he := he.below hb; replace B := below_only B hb; clear hb) | (go_at_call 11; refine (reach_any _ _ M _ _ hM he).mono ?_; rintro e w9 ⟨rfl, hb⟩; replace he := he.below hb; replace B := below_only B hb; clear hb))
      go_ret
      exact ⟨rfl, B⟩
    | true =>
      go_wp2_with (first | (go_at_call 10; refine (above_any _ _ M _ _ _ hM hc2 he).mono ?_; rintro e w9 ⟨rfl, hb⟩; replace he := he.below hb; replace B := below_only B hb; clear hb) | (go_at_call 11; refine (reach_any _ _ M _ _ hM he).mono ?_; rintro e w9 ⟨rfl, hb⟩; replace he := he.below hb; replace B := below_only B hb; clear hb))
      go_ret
      exact ⟨rfl, B⟩
  | true =>
    cases hba : above M (b % 8) (a % 8) with
    | false =>
      cases hbc : above M (b % 8) (c % 8) with
      | false =>
        cases hrb : reach M (b % 8) with
        | false =>
          go_wp2_with (first | (go_at_call 10; refine (above_any _ _ M _ _ _ hM hc2 he).mono ?_; rintro e w9 ⟨rfl, hb⟩; replace he := he.below hb; replace B := below_only B hb; clear hb) | (go_at_call 11; refine (reach_any _ _ M _ _ hM he).mono ?_; rintro e w9 ⟨rfl, hb⟩; replace he := he.below hb; replace B := below_only B hb; clear hb))
          go_ret
          exact ⟨rfl, B⟩
        | true =>
          have hra := Tra.out hab hrb
          go_wp2_with (first | (go_at_call 10; refine (above_any _ _ M _ _ _ hM hc2 he).mono ?_; rintro e w9 ⟨rfl, hb⟩; replace he := he.below hb; replace B := below_only B hb; clear hb) | (go_at_call 11; refine (reach_any _ _ M _ _ hM he).mono ?_; rintro e w9 ⟨rfl, hb⟩; replace he := he.below hb; replace B := below_only B hb; clear hb))
          go_ret
          exact ⟨rfl, B⟩
      | true =>
        have hac := Tac.out hab hbc
        cases hrb : reach M (b % 8) with
        | false =>
          go_wp2_with (first | (go_at_call 10; refine (above_any _ _ M _ _ _ hM hc2 he).mono ?_; rintro e w9 ⟨rfl, hb⟩; replace he := he.below hb; replace B := below_only B hb; clear hb) | (go_at_call 11; refine (reach_any _ _ M _ _ hM he).mono ?_; rintro e w9 ⟨rfl, hb⟩; replace he := he.below hb; replace B := below_only B hb; clear hb))
          go_ret
          exact ⟨rfl, B⟩
        | true =>
          have hra := Tra.out hab hrb
          go_wp2_with (first | (go_at_call 10; refine (above_any _ _ M _ _ _ hM hc2 he).mono ?_; rintro e w9 ⟨rfl, hb⟩; replace he := he.below hb; replace B := below_only B hb; clear hb) | (go_at_call 11; refine (reach_any _ _ M _ _ hM he).mono ?_; rintro e w9 ⟨rfl, hb⟩; replace he := he.below hb; replace B := below_only B hb; clear hb))
          go_ret
          exact ⟨rfl, B⟩
    | true =>
      have hne : (a % 8 != b % 8) = false := by simpa using Tab.out hab hba
      cases hbc : above M (b % 8) (c % 8) with
      | false =>
        cases hrb : reach M (b % 8) with
        | false =>
          go_wp2_with (first | (go_at_call 10; refine (above_any _ _ M _ _ _ hM hc2 he).mono ?_; rintro e w9 ⟨rfl, hb⟩; replace he := he.below hb; replace B := below_only B hb; clear hb) | (go_at_call 11; refine (reach_any _ _ M _ _ hM he).mono ?_; rintro e w9 ⟨rfl, hb⟩; replace he := he.below hb; replace B := below_only B hb; clear hb))
          go_ret
          exact ⟨rfl, B⟩
        | true =>
          have hra := Tra.out hab hrb
          go_wp2_with (first | (go_at_call 10; refine (above_any _ _ M _ _ _ hM hc2 he).mono ?_; rintro e w9 ⟨rfl, hb⟩; replace he := he.below hb; replace B := below_only B hb; clear hb) | (go_at_call 11; refine (reach_any _ _ M _ _ hM he).mono ?_; rintro e w9 ⟨rfl, hb⟩; replace he := he.below hb; replace B := below_only B hb; clear hb))
          go_ret
          exact ⟨rfl, B⟩
      | true =>
        have hac := Tac.out hab hbc
        cases hrb : reach M (b % 8) with
        | false =>
          go_wp2_with (first | (go_at_call 10; refine (above_any _ _ M _ _ _ hM hc2 he).mono ?_; rintro e w9 ⟨rfl, hb⟩; replace he := he.below hb; replace B := below_only B hb; clear hb) | (go_at_call 11; refine (reach_any _ _ M _ _ hM he).mono ?_; rintro e w9 ⟨rfl, hb⟩; replace he := he.below hb; replace B := below_only B hb; clear hb))
          go_ret
          exact ⟨rfl, B⟩
        | true =>
          have hra := Tra.out hab hrb
          go_wp2_with (first | (go_at_call 10; refine (above_any _ _ M _ _ _ hM hc2 he).mono ?_; rintro e w9 ⟨rfl, hb⟩; replace he := he.below hb; replace B := below_only B hb; clear hb) | (go_at_call 11; refine (reach_any _ _ M _ _ hM he).mono ?_; rintro e w9 ⟨rfl, hb⟩; replace he := he.below hb; replace B := below_only B hb; clear hb))
          go_ret
          exact ⟨rfl, B⟩

theorem chainOrders_walk (A : Option Addr) (k : Nat) (l : List Ent) (a b c : Int) (w : World) (hl : l.length ≤ k) (hk : k ≤ maxLen) (he : Ents w A l) (_ : ∀ e ∈ l, EntOk e)
    (ha : (Lit.int .u8 a).wf = true) (hb : (Lit.int .u8 b).wf = true) (hc : (Lit.int .u8 c).wf = true) :
    Calls Try.prog 3 #[.slice A l.length k, .agg #[.int .u8 a, .int .u8 b, .int .u8 c]] w fun e w' => e = .returned (.bool true) ∧ Below w.heap.size w w' :=
  chainOrders_core A k l a b c w (by simp only [maxLen] at hk; omega) he (wf_u8 ha).1 (wf_u8 ha).2 (wf_u8 hb).1 (wf_u8 hb).2 (wf_u8 hc).1 (wf_u8 hc).2

end Go.Proofs.Ythfjdgdpghepoaa
