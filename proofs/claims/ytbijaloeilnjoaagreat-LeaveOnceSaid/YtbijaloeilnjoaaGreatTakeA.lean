/- Layer 15: heads packed, words claimed: the walks of head.Words, head.Right, head.Pack, arena.Claim, and of the document's. (Printed by gen_takea.py.) -/
import Derived.Test.YtbijaloeilnjoaaGreatMJ
import Derived.Test.YtbijaloeilnjoaaGreatME
import Derived.Test.YtbijaloeilnjoaaGreatMI
import Derived.Test.YtbijaloeilnjoaaGreatRefA
import Derived.Test.YtbijaloeilnjoaaGreatBRefA
import Derived.Test.YtbijaloeilnjoaaGreatFound
namespace Go.Proofs.YtbijaloeilnjoaaGreat
open Go.RowKit
set_option linter.unusedVariables false
set_option linter.unusedSimpArgs false

theorem u64_join' (k : Nat) (x y : Int) (h0 : 0 ≤ x) (h1 : x < 2 ^ k) (h2 : 0 ≤ y) (h3 : y < 18446744073709551616) (h4 : y % 2 ^ k = 0) (h5 : x < 18446744073709551616) : bits .or .u64 y x = x + y := by
 obtain ⟨X, rfl⟩ := Int.eq_ofNat_of_zero_le h0
 obtain ⟨Y, rfl⟩ := Int.eq_ofNat_of_zero_le h2
 have h4' : Y % 2 ^ k = 0 := by
  have : ((Y % 2 ^ k : Nat) : Int) = 0 := by simpa using h4
  omega
 have h1' : X < 2 ^ k := by
  have : (X : Int) < ((2 ^ k : Nat) : Int) := by simpa using h1
  omega
 rw [u64_or_nat Y X (by omega) (by omega), nat_join k Y X h4' h1']
 simp
 omega
def head1 (sz sl tg : Int) : Int := sz + sl * 4294967296 + tg * 1099511627776 + 11889503016258109440
def head2 (sc ep : Int) : Int := sc + ep * 256
abbrev headA (sz sl tg sc ep : Int) : Value := .agg #[.int .i64 sz, .int .i64 sl, .int .i64 tg, .bool false, .int .i64 sc, .int .i64 ep]
structure HeadOk (sz sl tg sc ep : Int) : Prop where
 hsl : 0 ≤ sl ∧ sl ≤ 6
 hsz : 2 + sl ≤ sz ∧ sz ≤ 72
 htg : 0 ≤ tg ∧ tg ≤ 7
 hsc : 0 ≤ sc ∧ sc ≤ 7
 hep : 0 ≤ ep ∧ ep ≤ 16777215
set_option maxRecDepth 100000 in
set_option maxHeartbeats 2000000 in
theorem headBelow_any (n e : Int) (w : World) (h0 : 1 ≤ e) (h1 : e ≤ 16777216) : Calls Tryz.prog 162 #[.int .i64 n, .int .i64 e] w fun r w' => r = .returned (.bool (inB n 0 (e - 1))) ∧ w' = w := by
 go_enter Tryz.func162, Tryz.ntmps162
 go_wp2_with fail
 refine (within_any _ _ _ _).mono ?_
 rintro r w1 ⟨rfl, rfl⟩
 go_wp2_with fail
 go_ret
 exact ⟨rfl, rfl⟩
set_option maxRecDepth 100000 in
set_option maxHeartbeats 2000000 in
theorem rarnClaim_no (p b : Nat) (ws : List Int) (k : Nat) (top by_ most base one two : Int) (w : World) (hA : RArn w p b ws) (hk : ws[k]? = some top) (ht : 0 ≤ top ∧ top ≤ most) (hm : most ≤ 65536) (hb : most - top < by_ ∧ by_ ≤ 65536) :
  Calls Tryz.prog 83 #[.pointer (some ⟨p, 0, none⟩), .int .i64 ((k * 8 : Nat) : Int), .int .u64 by_, .int .u64 most, .int .i64 base, .int .u64 one, .int .u64 two] w fun r w' => r = .returned (.tuple #[.int .u64 top, .bool false, .int .i64 0]) ∧ w' = w := by
 have HW := Lib.hid (rarnWord_any p b ws k top ((k * 8 : Nat) : Int) w hA hk (by omega))
 obtain ⟨a, Ha⟩ : ∃ a, a = ((k * 8 : Nat) : Int) := ⟨_, rfl⟩
 rw [← Ha] at HW ⊢
 obtain ⟨t0, t1⟩ := ht
 obtain ⟨b0, b1⟩ := hb
 have d1 : ¬ most < top := by omega
 have d2 : most - top < by_ := by omega
 clear hA hk Ha
 go_enter Tryz.func83, Tryz.ntmps83
 go_wp2_with fail
 refine HW.out.mono ?_
 rintro r w1 ⟨rfl, rfl⟩
 go_wp2_with fail
 all_goals
  go_ret3
  exact ⟨rfl, rfl⟩
set_option maxRecDepth 100000 in
set_option maxHeartbeats 2000000 in
theorem rarnClaim_yes (p b : Nat) (ws : List Int) (k K : Nat) (top by_ most base one two z0 z1 : Int) (w : World) (hA : RArn w p b ws) (hk : ws[k]? = some top) (hK : ws[K]? = some z0) (hK1 : ws[K + 1]? = some z1) (ne : k < K) (ht : 0 ≤ top ∧ top ≤ most) (hm : most ≤ 65536) (hb : 0 ≤ by_ ∧ by_ ≤ most - top) (h0 : 0 ≤ base ∧ base ≤ 65536) (hKe : base + top = ((K * 8 : Nat) : Int)) (h1 : 0 ≤ one ∧ one < 18446744073709551616) (h2 : 0 ≤ two ∧ two < 18446744073709551616) :
  Calls Tryz.prog 83 #[.pointer (some ⟨p, 0, none⟩), .int .i64 ((k * 8 : Nat) : Int), .int .u64 by_, .int .u64 most, .int .i64 base, .int .u64 one, .int .u64 two] w fun r w' => r = .returned (.tuple #[.int .u64 top, .bool true, .int .i64 0]) ∧ RArn w' p b (((ws.set k (top + by_)).set K one).set (K + 1) two) ∧ Keep [b] w w' := by
 have HW := Lib.hid (rarnWord_any p b ws k top ((k * 8 : Nat) : Int) w hA hk (by omega))
 have hl := (List.getElem?_eq_some_iff.1 hK1).1
 have HI1 := Lib.hid (rarnIs_any p b ws K ((K * 8 : Nat) : Int) w hA (by omega) (by omega))
 have HI2 := Lib.hid (rarnIs_any p b ws (K + 1) (((K + 1) * 8 : Nat) : Int) w hA (by omega) (by omega))
 have HP1 := Lib.hid (rarnPut_any p b ws k top (top + by_) ((k * 8 : Nat) : Int) w hA hk (by omega) (by omega))
 have HP2 := Lib.hid (fun w1 (h : RArn w1 p b (ws.set k (top + by_))) => rarnPut_any p b (ws.set k (top + by_)) K z0 one ((K * 8 : Nat) : Int) w1 h (by rw [List.getElem?_set_ne (by omega)]; exact hK) (by omega) h1)
 have HP3 := Lib.hid (fun w1 (h : RArn w1 p b ((ws.set k (top + by_)).set K one)) => rarnPut_any p b ((ws.set k (top + by_)).set K one) (K + 1) z1 two (((K + 1) * 8 : Nat) : Int) w1 h (by rw [List.getElem?_set_ne (by omega), List.getElem?_set_ne (by omega)]; exact hK1) (by omega) h2)
 rw [show (((K + 1) * 8 : Nat) : Int) = ((K * 8 : Nat) : Int) + 8 by omega] at HP3 HI2
 obtain ⟨a, Ha⟩ : ∃ a, a = ((k * 8 : Nat) : Int) := ⟨_, rfl⟩
 obtain ⟨t, Ht⟩ : ∃ t, t = ((K * 8 : Nat) : Int) := ⟨_, rfl⟩
 rw [← Ha] at HW HP1 ⊢
 rw [← Ht] at HP2 HP3 HI1 HI2 hKe
 have ht8 : 0 ≤ t ∧ t ≤ 131072 := by omega
 obtain ⟨t80, t81⟩ := ht8
 obtain ⟨t0, t1⟩ := ht
 obtain ⟨b0, b1⟩ := hb
 obtain ⟨g0, g1⟩ := h0
 have d1 : ¬ most < top := by omega
 have d2 : ¬ most - top < by_ := by omega
 have d3 : ¬ 65536 < top := by omega
 have d4 : inB base 0 65536 = true := inB_t (by omega)
 have d5 : ¬ base < 0 := by omega
 have d6 : ¬ 65536 < base := by omega
 have e0 : decide (most < top) = false := decide_eq_false (by omega)
 have e1 : decide (most - top < by_) = false := decide_eq_false (by omega)
 have e2 : decide (65536 < top) = false := decide_eq_false (by omega)
 have e3 : decide (base < 0) = false := decide_eq_false (by omega)
 have e4 : decide (65536 < base) = false := decide_eq_false (by omega)
 have hwr : IntKind.u64.wrap (top + by_) = top + by_ := by rw [IntKind.wrap_u64]; omega
 have hwt : IntKind.i64.wrap (base + top) = t := by rw [hKe]; exact IntWalk.i64_in _ (by omega)
 have hw8 : IntKind.i64.wrap (t + 8) = t + 8 := IntWalk.i64_in _ (by omega)
 clear hA hk hK hK1 Ha Ht hl h1 h2 ne hKe
 go_enter Tryz.func83, Tryz.ntmps83
 go_wp2_with fail
 refine HW.out.mono ?_
 rintro r w1 ⟨rfl, rfl⟩
 go_wp2_with (first
  | (go_at_call 85; first | ((with_reducible refine HI1.out.mono ?_); rintro r w1 ⟨rfl, rfl⟩) | ((with_reducible refine HI2.out.mono ?_); rintro r w1 ⟨rfl, rfl⟩)))
 with_reducible refine HP1.out.mono ?_
 rintro r w2 ⟨rfl, hA2, hK2⟩
 have HA2 := Lib.hid hA2
 have HK2 := Lib.hid hK2
 clear hA2 hK2
 go_wp2_with fail
 with_reducible refine (HP2.out _ HA2.out).mono ?_
 rintro r w3 ⟨rfl, hA3, hK3⟩
 have HA3 := Lib.hid hA3
 have HK3 := Lib.hid (HK2.out.trans hK3)
 clear hA3 hK3
 go_wp2_with fail
 with_reducible refine (HP3.out _ HA3.out).mono ?_
 rintro r w4 ⟨rfl, hA4, hK4⟩
 have HA4 := Lib.hid hA4
 have HK4 := Lib.hid (HK3.out.trans hK4)
 clear hA4 hK4
 go_wp2_with fail
 go_ret3
 exact ⟨rfl, HA4.out, HK4.out⟩

end Go.Proofs.YtbijaloeilnjoaaGreat
