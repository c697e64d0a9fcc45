/- The walk of ScopesOnce. -/
import Derived.Test.YtcicpfhbpcdjcaaScE
namespace Go.Proofs.Ytcicpfhbpcdjcaa
open Go.RowKit

/-- the first scope is c -/
def onceS (c : Ctl) : Sco := ⟨⟨⟨2, 1, -1, 0⟩, (512, 0)⟩ :: ⟨c, (512, 104)⟩ :: List.replicate 6 scFree, [(616, 152)]⟩
def onceN : Sco := ⟨⟨⟨2, 1, -1, 0⟩, (512, 0)⟩ :: List.replicate 7 scFree, [(512, 256)]⟩
theorem once_new : newS ⟨8, 4, 0, 256⟩ = onceN := by kernel_rfl
theorem once_create : createS 100 onceN = ((1, 0), onceS ⟨1, 0, -1, 0⟩) := by kernel_rfl
theorem once_gone : destroyS 512 768 1 (onceS ⟨1, 0, -1, 1⟩) = (0, ⟨⟨⟨2, 1, -1, 0⟩, (512, 0)⟩ :: ⟨⟨0, 0, -1, 2⟩, (0, 0)⟩ :: List.replicate 6 scFree, [(512, 256)]⟩) := by kernel_rfl
def onceE : Sco := ⟨⟨⟨2, 1, -1, 0⟩, (512, 0)⟩ :: ⟨⟨1, 0, -1, 2⟩, (512, 8)⟩ :: List.replicate 6 scFree, [(520, 248)]⟩
theorem once_again : createS 8 ⟨⟨⟨2, 1, -1, 0⟩, (512, 0)⟩ :: ⟨⟨0, 0, -1, 2⟩, (0, 0)⟩ :: List.replicate 6 scFree, [(512, 256)]⟩ = ((1, 0), onceE) := by kernel_rfl
theorem once_end : ctlS 1 onceE = (⟨1, 0, -1, 2⟩, 0) := by kernel_rfl
/-- some are within, from m -/
def onceL (j : Nat) (m : Int) : Sco := onceS (if j = 0 then ⟨1, 0, -1, 0⟩ else ⟨2, j, m, 0⟩)
theorem int8 {m : Int} (h0 : 0 ≤ m) (h7 : m ≤ 7) : m = 0 ∨ m = 1 ∨ m = 2 ∨ m = 3 ∨ m = 4 ∨ m = 5 ∨ m = 6 ∨ m = 7 := by omega
theorem nat7 {j : Nat} (h0 : 0 < j) (h7 : j ≤ 7) : j = 1 ∨ j = 2 ∨ j = 3 ∨ j = 4 ∨ j = 5 ∨ j = 6 ∨ j = 7 := by omega
theorem once_enter {j : Nat} {m : Int} (hj : j < 7) (m0 : 0 ≤ m) (m7 : m ≤ 7) : enterS 1 m (onceL j m) = (0, onceL (j + 1) m) := by
  obtain rfl | rfl | rfl | rfl | rfl | rfl | rfl : j = 0 ∨ j = 1 ∨ j = 2 ∨ j = 3 ∨ j = 4 ∨ j = 5 ∨ j = 6 := by omega
  all_goals (rcases int8 m0 m7 with rfl | rfl | rfl | rfl | rfl | rfl | rfl | rfl <;> rfl)
theorem once_full {m : Int} (m0 : 0 ≤ m) (m7 : m ≤ 7) : enterS 1 m (onceL 7 m) = (16, onceL 7 m) := by
  rcases int8 m0 m7 with rfl | rfl | rfl | rfl | rfl | rfl | rfl | rfl <;> rfl
theorem once_odd {j : Nat} {m o : Int} (hj : 0 < j) (hj7 : j ≤ 7) (m0 : 0 ≤ m) (m7 : m ≤ 7) (o0 : 0 ≤ o) (o7 : o ≤ 7) (h : m ≠ o) : enterS 1 o (onceL j m) = (15, onceL j m) := by
  rcases nat7 hj hj7 with rfl | rfl | rfl | rfl | rfl | rfl | rfl
  all_goals (rcases int8 m0 m7 with rfl | rfl | rfl | rfl | rfl | rfl | rfl | rfl <;> rcases int8 o0 o7 with rfl | rfl | rfl | rfl | rfl | rfl | rfl | rfl <;> first | exact absurd rfl h | rfl)
theorem once_used {j : Nat} {m : Int} (hj : 0 < j) (hj7 : j ≤ 7) (m0 : 0 ≤ m) (m7 : m ≤ 7) : destroyS 512 768 1 (onceL j m) = (12, onceL j m) := by
  rcases nat7 hj hj7 with rfl | rfl | rfl | rfl | rfl | rfl | rfl
  all_goals (rcases int8 m0 m7 with rfl | rfl | rfl | rfl | rfl | rfl | rfl | rfl <;> rfl)
/-- j are left to leave -/
def onceD (j : Nat) (m : Int) : Sco := if j = 0 then onceS ⟨3, 0, m, 0⟩ else onceL j m
theorem onceD_pos {j : Nat} (m : Int) (hj : 0 < j) : onceD j m = onceL j m := if_neg (by omega)
theorem once_leave {j : Nat} {m : Int} (hj : 0 < j) (hj7 : j ≤ 7) (m0 : 0 ≤ m) (m7 : m ≤ 7) : leaveS 1 (onceD j m) = (0, onceD (j - 1) m) := by
  rcases nat7 hj hj7 with rfl | rfl | rfl | rfl | rfl | rfl | rfl
  all_goals (rcases int8 m0 m7 with rfl | rfl | rfl | rfl | rfl | rfl | rfl | rfl <;> rfl)
theorem once_last {j : Nat} {m : Int} (hj : 0 < j) (hj7 : j ≤ 7) (m0 : 0 ≤ m) (m7 : m ≤ 7) : lastS 1 (onceD j m) = (j == 1) := by
  rcases nat7 hj hj7 with rfl | rfl | rfl | rfl | rfl | rfl | rfl
  all_goals (rcases int8 m0 m7 with rfl | rfl | rfl | rfl | rfl | rfl | rfl | rfl <;> rfl)
theorem once_wait {m : Int} (m0 : 0 ≤ m) (m7 : m ≤ 7) : enterS 1 m (onceD 0 m) = (10, onceD 0 m) := by
  rcases int8 m0 m7 with rfl | rfl | rfl | rfl | rfl | rfl | rfl | rfl <;> rfl
theorem once_drain {m : Int} (m0 : 0 ≤ m) (m7 : m ≤ 7) : destroyS 512 768 1 (onceD 0 m) = (12, onceD 0 m) := by
  rcases int8 m0 m7 with rfl | rfl | rfl | rfl | rfl | rfl | rfl | rfl <;> rfl
theorem once_open {m : Int} (m0 : 0 ≤ m) (m7 : m ≤ 7) : openS 1 (onceD 0 m) = (0, onceS ⟨1, 0, -1, 1⟩) := by
  rcases int8 m0 m7 with rfl | rfl | rfl | rfl | rfl | rfl | rfl | rfl <;> rfl
theorem once_ctl : ctlS 1 (onceS ⟨1, 0, -1, 1⟩) = (⟨1, 0, -1, 1⟩, 0) := by kernel_rfl

set_option maxRecDepth 100000 in
set_option maxHeartbeats 4000000 in
theorem once_core (n fr ot : Int) (w : World) (hn0 : 0 ≤ n) (hn1 : n ≤ 255) (hf0 : 0 ≤ fr) (hf1 : fr ≤ 255) (ho0 : 0 ≤ ot) (ho1 : ot ≤ 255) :
    Calls Try.prog 4 #[.int .u8 n, .int .u8 fr, .int .u8 ot] w fun e w' => e = .returned (.bool true) ∧ Below w.heap.size w w' := by
  obtain ⟨k, hk, k1, k9⟩ : ∃ k : Nat, 1 + n % 9 = (k : Int) ∧ 1 ≤ k ∧ k ≤ 9 := ⟨(1 + n % 9).toNat, by omega, by omega, by omega⟩
  have m0 : 0 ≤ fr % 8 := by omega
  have m7 : fr % 8 ≤ 7 := by omega
  have o0 : 0 ≤ ot % 8 := by omega
  have o7 : ot % 8 ≤ 7 := by omega
  go_enter Try.func4, Try.ntmps4
  go_wp2_with fail
  refine (shown_any _).mono ?_
  rintro r w1 ⟨rfl, hB1⟩
  go_wp2_with fail
  refine (snew_any ⟨8, 4, 0, 256⟩ _ (by unfold PlnOk; decide)).mono ?_
  rintro r w2 ⟨p, b, g, q, rfl, hS, hB⟩
  have HS2 := Lib.hid (scs_eq hS once_new)
  have HB1 := Lib.hid hB1
  have HB2 := Lib.hid hB
  clear hS hB hB1
  go_wp2_with fail
  refine (screate_any _ p b g q _ _ onceN 100 _ HS2.out).mono ?_
  rintro r w3 ⟨rfl, hS, hk3⟩
  rw [once_create] at hS ⊢
  have HS3 := Lib.hid (scs_eq hS (show onceS ⟨1, 0, -1, 0⟩ = onceL 0 (fr % 8) from rfl))
  have HB3 := Lib.hid (HS2.out.keep_below HB2.out hk3)
  clear hS hk3
  go_wp2_with fail
  go_loopw [15, 16, 17] (fun t15 t16 _ wr => ∃ i j : Nat, i ≤ k ∧ j ≤ 7 ∧ (i < 7 → j = i) ∧ (7 ≤ i → j = 7) ∧ t16 = .int .i64 i ∧ t15 = .int .i64 j ∧ Scs w1.heap.size wr p b g q 512 768 (onceL j (fr % 8)) ∧ Below w1.heap.size w1 wr)
    (fun _ t _ _ => k - (intOf t).toNat)
  case atStart => exact ⟨0, 0, Nat.zero_le _, by omega, fun _ => rfl, by omega, rfl, rfl, HS3.out, HB3.out⟩
  case round =>
    obtain ⟨i, j, hi, hj, hj1, hj2, rfl, rfl, hS, hB⟩ := hrel
    have HS4 := Lib.hid hS
    have HB4 := Lib.hid hB
    clear hS hB
    by_cases hlt : i < k
    · by_cases h7 : i < 7
      · obtain rfl := hj1 h7
        have he := once_enter h7 m0 m7
        have HE := Lib.hid he
        clear hj1 hj2 he
        go_wp2_with fail
        refine (senter_any _ p b g q _ _ (onceL j (fr % 8)) 1 (fr % 8) _ HS4.out).mono ?_
        rintro r w5 ⟨rfl, hS, hk5⟩
        rw [HE.out] at hS ⊢
        have HS5 := Lib.hid hS
        have HB5 := Lib.hid (HS4.out.keep_below HB4.out (hk5.mono fun _ _ hm => by simp at hm; simp [hm]))
        clear hS hk5
        go_wp2_with fail
        go_roundw
        case rel => exact ⟨j + 1, j + 1, hlt, by omega, fun _ => rfl, by omega, by go_num, by go_num, HS5.out, HB5.out⟩
        case measure => simp [intOf]; omega
      · obtain rfl := hj2 (by omega)
        have HE := Lib.hid (once_full m0 m7)
        have hi7 : decide ((i : Int) < 7) = false := decide_eq_false (by omega)
        clear hj1 hj2
        go_wp2_with fail
        refine (senter_any _ p b g q _ _ (onceL 7 (fr % 8)) 1 (fr % 8) _ HS4.out).mono ?_
        rintro r w5 ⟨rfl, hS, hk5⟩
        rw [HE.out] at hS ⊢
        have HS5 := Lib.hid hS
        have HB5 := Lib.hid (HS4.out.keep_below HB4.out (hk5.mono fun _ _ hm => by simp at hm; simp [hm]))
        clear hS hk5
        go_wp2_with fail
        go_roundw
        case rel => exact ⟨i + 1, 7, hlt, by omega, by omega, fun _ => rfl, by go_num, rfl, HS5.out, HB5.out⟩
        case measure => simp [intOf]; omega
    · obtain rfl : i = k := by omega
      have hj0 : 0 < j := by omega
      have HU := Lib.hid (once_used hj0 hj m0 m7)
      have hmin : (if 7 < (i : Int) then (7 : Int) else (i : Int)) = (j : Int) := by split <;> omega
      clear hj1 hj2
      by_cases hoa : ot % 8 = fr % 8
      · have hne : (ot % 8 != fr % 8) = false := by rw [hoa]; simp
        clear hoa
        go_wp2_with fail
        refine (sdestroy_any _ p b g q _ _ (onceL j (fr % 8)) 1 _ HS4.out).mono ?_
        rintro r w5 ⟨rfl, ⟨q5, hS, _⟩, hk5⟩
        rw [HU.out] at hS ⊢
        have HS5 := Lib.hid hS
        have HB5 := Lib.hid (HS4.out.keep_below HB4.out hk5)
        clear hS hk5
        go_wp2_with fail
        go_loopw [18, 19, 20] (fun t18 _ _ wr => ∃ (l : Nat) (q' : Option Nat), l ≤ j ∧ t18 = .int .i64 l ∧ Scs w1.heap.size wr p b g q' 512 768 (onceD (j - l) (fr % 8)) ∧ Below w1.heap.size w1 wr)
          (fun t _ _ _ => j - (intOf t).toNat)
        case atStart => exact ⟨0, _, Nat.zero_le _, rfl, by rw [Nat.sub_zero, onceD_pos _ hj0]; exact HS5.out, HB5.out⟩
        case round =>
          obtain ⟨l, q', hl, rfl, hS, hB⟩ := hrel
          have HS6 := Lib.hid hS
          have HB6 := Lib.hid hB
          clear hS hB
          by_cases hlt2 : l < j
          · have HL := Lib.hid (once_leave (j := j - l) (by omega) (by omega) m0 m7)
            have HLa := Lib.hid (once_last (j := j - l) (by omega) (by omega) m0 m7)
            by_cases h1 : j - l = 1
            · have hb1 : ((l : Int) == (j : Int) - 1) = true := by simp; omega
              go_wp2_with fail
              refine (sleave_any _ p b g q' _ _ (onceD (j - l) (fr % 8)) 1 _ HS6.out).mono ?_
              rintro r w7 ⟨rfl, hS, hk7⟩
              rw [HL.out] at hS ⊢
              rw [HLa.out, show (j - l == 1) = true by simpa using h1]
              have HS7 := Lib.hid hS
              have HB7 := Lib.hid (HS6.out.keep_below HB6.out (hk7.mono fun _ _ hm => by simp at hm; simp [hm]))
              clear hS hk7
              go_wp2_with fail
              go_roundw
              case rel => exact ⟨l + 1, q', hlt2, by go_num, by rw [show j - (l + 1) = j - l - 1 by omega]; exact HS7.out, HB7.out⟩
              case measure => simp [intOf]; omega
            · have hb1 : ((l : Int) == (j : Int) - 1) = false := by simp; omega
              have hb2 : (j - l == 1) = false := by simpa using h1
              go_wp2_with fail
              refine (sleave_any _ p b g q' _ _ (onceD (j - l) (fr % 8)) 1 _ HS6.out).mono ?_
              rintro r w7 ⟨rfl, hS, hk7⟩
              rw [HLa.out, hb2]
              rw [HL.out] at hS ⊢
              have HS7 := Lib.hid hS
              have HB7 := Lib.hid (HS6.out.keep_below HB6.out (hk7.mono fun _ _ hm => by simp at hm; simp [hm]))
              clear hS hk7 hb2
              go_wp2_with fail
              go_roundw
              case rel => exact ⟨l + 1, q', hlt2, by go_num, by rw [show j - (l + 1) = j - l - 1 by omega]; exact HS7.out, HB7.out⟩
              case measure => simp [intOf]; omega
          · have HS7 := Lib.hid (scs_eq HS6.out (show onceD (j - l) (fr % 8) = onceD 0 (fr % 8) by rw [show j - l = 0 by omega]))
            clear HS6
            go_wp2_with fail
            refine (senter_any _ p b g q' _ _ (onceD 0 (fr % 8)) 1 (fr % 8) _ HS7.out).mono ?_
            rintro r w8 ⟨rfl, hS, hk⟩
            rw [once_wait m0 m7] at hS ⊢
            have HS8 := Lib.hid hS
            have HB8 := Lib.hid (HS7.out.keep_below HB6.out (hk.mono fun _ _ hm => by simp at hm; simp [hm]))
            clear hS hk
            go_wp2_with fail
            refine (sdestroy_any _ p b g q' _ _ (onceD 0 (fr % 8)) 1 _ HS8.out).mono ?_
            rintro r w9 ⟨rfl, ⟨q9, hS, _⟩, hk⟩
            rw [once_drain m0 m7] at hS ⊢
            have HS9 := Lib.hid hS
            have HB9 := Lib.hid (HS8.out.keep_below HB8.out hk)
            clear hS hk
            go_wp2_with fail
            refine (sopen_any _ p b g q9 _ _ (onceD 0 (fr % 8)) 1 _ HS9.out).mono ?_
            rintro r w10 ⟨rfl, hS, hk⟩
            rw [once_open m0 m7] at hS ⊢
            have HS10 := Lib.hid hS
            have HB10 := Lib.hid (HS9.out.keep_below HB9.out (hk.mono fun _ _ hm => by simp at hm; simp [hm]))
            clear hS hk
            go_wp2_with fail
            refine (ctl_any _ p b g q9 _ _ (onceS ⟨1, 0, -1, 1⟩) 1 _ HS10.out).mono ?_
            rintro r w11 ⟨rfl, hb⟩
            rw [once_ctl]
            have hX : Below w11.heap.size w11 (w11.alloc (.cells #[.int .i64 1, .int .i64 0, .int .i64 (-1), .int .i64 1] 43)) := by go_grown
            have HS11 := Lib.hid (HS10.out.below (below_only hb hX))
            have HB11 := Lib.hid (HB10.out.trans ((below_only hb hX).mono HB10.out.size))
            have HR11 := Lib.hid (row_new w11 #[.int .i64 1, .int .i64 0, .int .i64 (-1), .int .i64 1] 43)
            obtain ⟨n0, n1, n2, n3⟩ := HS10.out.free (k := w11.heap.size) (by have := hb.size; exact this)
            have hg10 := HB10.out.size
            have hg11 := hb.size
            clear hb hX
            go_wp2_with fail
            refine (sdestroy_any _ p b g q9 _ _ (onceS ⟨1, 0, -1, 1⟩) 1 _ HS11.out).mono ?_
            rintro r w12 ⟨rfl, ⟨q12, hS, hq⟩, hk⟩
            rw [once_gone] at hS ⊢
            have HS12 := Lib.hid hS
            have HB12 := Lib.hid (HS11.out.keep_below HB11.out hk)
            have HR12 := Lib.hid (hk.row HR11.out (by simp; exact ⟨n1, n2, fun e => n3 e⟩))
            have n12 : q12 ≠ some w11.heap.size := fun e => (hq _ e).elim n3 (fun e => by have e' : (w11.alloc (.cells #[.int .i64 1, .int .i64 0, .int .i64 (-1), .int .i64 1] 43)).heap.size ≤ w11.heap.size := e; rw [show (w11.alloc (.cells #[.int .i64 1, .int .i64 0, .int .i64 (-1), .int .i64 1] 43)).heap.size = w11.heap.size + 1 by simp] at e'; omega)
            clear hS hk hq
            go_wp2_with fail
            refine (screate_any _ p b g q12 _ _ _ 8 _ HS12.out).mono ?_
            rintro r w13 ⟨rfl, hS, hk⟩
            rw [once_again] at hS ⊢
            have HS13 := Lib.hid hS
            have HB13 := Lib.hid (HS12.out.keep_below HB12.out hk)
            have HR13 := Lib.hid (hk.row HR12.out (by simp; exact ⟨n1, n2, fun e => n12 e⟩))
            clear hS hk
            go_wp2_with fail
            refine (ctl_any _ p b g q12 _ _ onceE 1 _ HS13.out).mono ?_
            rintro r w14 ⟨rfl, hb⟩
            rw [once_end]
            have HR14 := row_below HR13.out hb
            obtain ⟨x0, x1, x2, x3, _, _, _, _⟩ := box4 HR14
            have hlt14 := lt_of_heap HR14
            have hB14 := HB13.out.trans (hb.mono HB13.out.size)
            have hce : ctlEq ⟨1, 0, -1, 1⟩ ⟨1, 0, -1, 1⟩ = true := by kernel_rfl
            clear hb
            go_wp2_with fail
            go_ret
            exact ⟨rfl, below_only HB1.out (hB14.alloc hB14.size _)⟩
      · have hne : (ot % 8 != fr % 8) = true := by simpa using hoa
        have HO := Lib.hid (once_odd hj0 hj m0 m7 o0 o7 (Ne.symm hoa))
        clear hoa
        go_wp2_with fail
        refine (sdestroy_any _ p b g q _ _ (onceL j (fr % 8)) 1 _ HS4.out).mono ?_
        rintro r w4 ⟨rfl, ⟨q5, hS, _⟩, hk5⟩
        rw [HU.out] at hS ⊢
        have HS4' := Lib.hid hS
        have HB4' := Lib.hid (HS4.out.keep_below HB4.out hk5)
        clear hS hk5
        go_wp2_with fail
        refine (senter_any _ p b g q5 _ _ (onceL j (fr % 8)) 1 (ot % 8) _ HS4'.out).mono ?_
        rintro r w5 ⟨rfl, hS, hk5⟩
        rw [HO.out] at hS ⊢
        have HS5 := Lib.hid hS
        have HB5 := Lib.hid (HS4'.out.keep_below HB4'.out (hk5.mono fun _ _ hm => by simp at hm; simp [hm]))
        clear hS hk5
        go_wp2_with fail
        go_loopw [18, 19, 20] (fun t18 _ _ wr => ∃ (l : Nat) (q' : Option Nat), l ≤ j ∧ t18 = .int .i64 l ∧ Scs w1.heap.size wr p b g q' 512 768 (onceD (j - l) (fr % 8)) ∧ Below w1.heap.size w1 wr)
          (fun t _ _ _ => j - (intOf t).toNat)
        case atStart => exact ⟨0, _, Nat.zero_le _, rfl, by rw [Nat.sub_zero, onceD_pos _ hj0]; exact HS5.out, HB5.out⟩
        case round =>
          obtain ⟨l, q', hl, rfl, hS, hB⟩ := hrel
          have HS6 := Lib.hid hS
          have HB6 := Lib.hid hB
          clear hS hB
          by_cases hlt2 : l < j
          · have HL := Lib.hid (once_leave (j := j - l) (by omega) (by omega) m0 m7)
            have HLa := Lib.hid (once_last (j := j - l) (by omega) (by omega) m0 m7)
            by_cases h1 : j - l = 1
            · have hb1 : ((l : Int) == (j : Int) - 1) = true := by simp; omega
              go_wp2_with fail
              refine (sleave_any _ p b g q' _ _ (onceD (j - l) (fr % 8)) 1 _ HS6.out).mono ?_
              rintro r w7 ⟨rfl, hS, hk7⟩
              rw [HL.out] at hS ⊢
              rw [HLa.out, show (j - l == 1) = true by simpa using h1]
              have HS7 := Lib.hid hS
              have HB7 := Lib.hid (HS6.out.keep_below HB6.out (hk7.mono fun _ _ hm => by simp at hm; simp [hm]))
              clear hS hk7
              go_wp2_with fail
              go_roundw
              case rel => exact ⟨l + 1, q', hlt2, by go_num, by rw [show j - (l + 1) = j - l - 1 by omega]; exact HS7.out, HB7.out⟩
              case measure => simp [intOf]; omega
            · have hb1 : ((l : Int) == (j : Int) - 1) = false := by simp; omega
              have hb2 : (j - l == 1) = false := by simpa using h1
              go_wp2_with fail
              refine (sleave_any _ p b g q' _ _ (onceD (j - l) (fr % 8)) 1 _ HS6.out).mono ?_
              rintro r w7 ⟨rfl, hS, hk7⟩
              rw [HLa.out, hb2]
              rw [HL.out] at hS ⊢
              have HS7 := Lib.hid hS
              have HB7 := Lib.hid (HS6.out.keep_below HB6.out (hk7.mono fun _ _ hm => by simp at hm; simp [hm]))
              clear hS hk7 hb2
              go_wp2_with fail
              go_roundw
              case rel => exact ⟨l + 1, q', hlt2, by go_num, by rw [show j - (l + 1) = j - l - 1 by omega]; exact HS7.out, HB7.out⟩
              case measure => simp [intOf]; omega
          · have HS7 := Lib.hid (scs_eq HS6.out (show onceD (j - l) (fr % 8) = onceD 0 (fr % 8) by rw [show j - l = 0 by omega]))
            clear HS6
            go_wp2_with fail
            refine (senter_any _ p b g q' _ _ (onceD 0 (fr % 8)) 1 (fr % 8) _ HS7.out).mono ?_
            rintro r w8 ⟨rfl, hS, hk⟩
            rw [once_wait m0 m7] at hS ⊢
            have HS8 := Lib.hid hS
            have HB8 := Lib.hid (HS7.out.keep_below HB6.out (hk.mono fun _ _ hm => by simp at hm; simp [hm]))
            clear hS hk
            go_wp2_with fail
            refine (sdestroy_any _ p b g q' _ _ (onceD 0 (fr % 8)) 1 _ HS8.out).mono ?_
            rintro r w9 ⟨rfl, ⟨q9, hS, _⟩, hk⟩
            rw [once_drain m0 m7] at hS ⊢
            have HS9 := Lib.hid hS
            have HB9 := Lib.hid (HS8.out.keep_below HB8.out hk)
            clear hS hk
            go_wp2_with fail
            refine (sopen_any _ p b g q9 _ _ (onceD 0 (fr % 8)) 1 _ HS9.out).mono ?_
            rintro r w10 ⟨rfl, hS, hk⟩
            rw [once_open m0 m7] at hS ⊢
            have HS10 := Lib.hid hS
            have HB10 := Lib.hid (HS9.out.keep_below HB9.out (hk.mono fun _ _ hm => by simp at hm; simp [hm]))
            clear hS hk
            go_wp2_with fail
            refine (ctl_any _ p b g q9 _ _ (onceS ⟨1, 0, -1, 1⟩) 1 _ HS10.out).mono ?_
            rintro r w11 ⟨rfl, hb⟩
            rw [once_ctl]
            have hX : Below w11.heap.size w11 (w11.alloc (.cells #[.int .i64 1, .int .i64 0, .int .i64 (-1), .int .i64 1] 43)) := by go_grown
            have HS11 := Lib.hid (HS10.out.below (below_only hb hX))
            have HB11 := Lib.hid (HB10.out.trans ((below_only hb hX).mono HB10.out.size))
            have HR11 := Lib.hid (row_new w11 #[.int .i64 1, .int .i64 0, .int .i64 (-1), .int .i64 1] 43)
            obtain ⟨n0, n1, n2, n3⟩ := HS10.out.free (k := w11.heap.size) (by have := hb.size; exact this)
            have hg10 := HB10.out.size
            have hg11 := hb.size
            clear hb hX
            go_wp2_with fail
            refine (sdestroy_any _ p b g q9 _ _ (onceS ⟨1, 0, -1, 1⟩) 1 _ HS11.out).mono ?_
            rintro r w12 ⟨rfl, ⟨q12, hS, hq⟩, hk⟩
            rw [once_gone] at hS ⊢
            have HS12 := Lib.hid hS
            have HB12 := Lib.hid (HS11.out.keep_below HB11.out hk)
            have HR12 := Lib.hid (hk.row HR11.out (by simp; exact ⟨n1, n2, fun e => n3 e⟩))
            have n12 : q12 ≠ some w11.heap.size := fun e => (hq _ e).elim n3 (fun e => by have e' : (w11.alloc (.cells #[.int .i64 1, .int .i64 0, .int .i64 (-1), .int .i64 1] 43)).heap.size ≤ w11.heap.size := e; rw [show (w11.alloc (.cells #[.int .i64 1, .int .i64 0, .int .i64 (-1), .int .i64 1] 43)).heap.size = w11.heap.size + 1 by simp] at e'; omega)
            clear hS hk hq
            go_wp2_with fail
            refine (screate_any _ p b g q12 _ _ _ 8 _ HS12.out).mono ?_
            rintro r w13 ⟨rfl, hS, hk⟩
            rw [once_again] at hS ⊢
            have HS13 := Lib.hid hS
            have HB13 := Lib.hid (HS12.out.keep_below HB12.out hk)
            have HR13 := Lib.hid (hk.row HR12.out (by simp; exact ⟨n1, n2, fun e => n12 e⟩))
            clear hS hk
            go_wp2_with fail
            refine (ctl_any _ p b g q12 _ _ onceE 1 _ HS13.out).mono ?_
            rintro r w14 ⟨rfl, hb⟩
            rw [once_end]
            have HR14 := row_below HR13.out hb
            obtain ⟨x0, x1, x2, x3, _, _, _, _⟩ := box4 HR14
            have hlt14 := lt_of_heap HR14
            have hB14 := HB13.out.trans (hb.mono HB13.out.size)
            have hce : ctlEq ⟨1, 0, -1, 1⟩ ⟨1, 0, -1, 1⟩ = true := by kernel_rfl
            clear hb
            go_wp2_with fail
            go_ret
            exact ⟨rfl, below_only HB1.out (hB14.alloc hB14.size _)⟩

theorem scopesOnce_walk (n fr ot : Int) (w : World) (hn : (Lit.int .u8 n).wf = true) (hf : (Lit.int .u8 fr).wf = true) (ho : (Lit.int .u8 ot).wf = true) :
    Calls Try.prog 4 #[.int .u8 n, .int .u8 fr, .int .u8 ot] w fun e w' => e = .returned (.bool true) ∧ Below w.heap.size w w' :=
  once_core n fr ot w (wf_u8 hn).1 (wf_u8 hn).2 (wf_u8 hf).1 (wf_u8 hf).2 (wf_u8 ho).1 (wf_u8 ho).2

end Go.Proofs.Ytcicpfhbpcdjcaa
