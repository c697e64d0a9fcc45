/- The walks of begin's named, first, Check, and of the closures of its refuse. -/
import Derived.Test.YtaneokplagdcfaaRefA
import Derived.Test.YtaneokplagdcfaaChainF
namespace Go.Proofs.Ytaneokplagdcfaa
open Go.RowKit

/-- the first register that may not be -/
def idxR (l : List Int) : Int := match l.findIdx? fun x => !rgOk x with | none => -1 | some i => (i : Nat)
theorem idxR_all (l : List Int) : decide (idxR l ≥ 0) = !(l.all rgOk) := by
  unfold idxR
  cases h : l.findIdx? (fun x => !rgOk x) with
  | none =>
    have := findIdx_none h
    rw [show l.all rgOk = true from List.all_eq_true.2 fun x hx => by simpa using this x hx]
    rfl
  | some i =>
    obtain ⟨x, h1, _, h2, _⟩ := findIdx_some h
    have hm := List.mem_of_getElem? h1
    have : l.all rgOk = false := by
      rw [List.all_eq_false]
      exact ⟨x, hm, by simpa using h2⟩
    rw [this]
    simp
abbrev u8Cells (x : Int) : List Value := [.int .u8 x]
theorem u8_at {w : World} {A : Option Addr} {l : List Int} (h : Cells w A (l.flatMap u8Cells)) (h0 : 0 < l.length) : ∃ b off, A = some ⟨b, off, none⟩ ∧ b < w.heap.size ∧ ∀ k x, l[k]? = some x → w.cell? ⟨b, off + k, none⟩ = some (.int .u8 x) := by
  obtain ⟨b, off, e, hb, hc⟩ := Cells.at_ h (by rw [flat_length u8Cells 1 (fun _ => rfl)]; omega)
  refine ⟨b, off, e, hb, fun k x hk => ?_⟩
  have := hc (k * 1 + 0) (.int .u8 x) (by rw [flat_get u8Cells 1 (fun _ => rfl) l k 0 (by omega), hk]; rfl)
  simpa using this

set_option maxRecDepth 100000 in
set_option maxHeartbeats 400000 in
theorem named1_any (x : Int) (w : World) : Calls Try.prog 80 #[.int .u8 x] w fun r w' => r = .returned (.bool (!rgOk x)) ∧ Below w.heap.size w w' := by
  have hd : decide (x ≥ 4) = !rgOk x := by unfold rgOk; by_cases h : x < 4 <;> simp [h] <;> omega
  have hd2 : decide (4 ≤ x) = !rgOk x := hd
  go_enter Try.func80, Try.ntmps80
  go_wp2
  go_ret
  exact ⟨by first | rfl | rw [hd] | rw [hd2], by go_grown⟩

set_option maxRecDepth 100000 in
set_option maxHeartbeats 1000000 in
theorem idxf_any (A : Option Addr) (c : Nat) (l : List Int) (w : World) (hl : l.length ≤ 8) (he : Cells w A (l.flatMap u8Cells)) :
    Calls Try.prog 92 #[.slice A l.length c, .func (.func 80) #[] #[]] w fun r w' => r = .returned (.int .i64 (idxR l)) ∧ Below w.heap.size w w' := by
  have HR := Lib.hid he
  clear he
  go_enter Try.func92, Try.ntmps92
  go_wp2
  go_loopw [5, 8] (fun _ t wr => ∃ k : Nat, k ≤ l.length ∧ t = .int .i64 k ∧ (∀ j y, j < k → l[j]? = some y → (fun x => !rgOk x) y = false) ∧ Below w.heap.size w wr)
    (fun _ t _ => l.length - (intOf t).toNat)
  case atStart => exact ⟨0, Nat.zero_le _, rfl, by omega, Below.refl _ _⟩
  case round =>
    obtain ⟨k, hk, rfl, hn, hb⟩ := hrel
    have Hn := Lib.hid hn
    clear hn
    by_cases hlt : k < l.length
    · obtain ⟨s, hv⟩ : ∃ s, l[k]? = some s := ⟨_, List.getElem?_eq_getElem hlt⟩
      obtain ⟨b, off, rfl, hbl, hc⟩ := u8_at (Cells.below HR.out hb) (by omega)
      have q0 := hc k s hv
      have Hv := Lib.hid hv
      clear hv hc
      cases hp : (!rgOk s) with
      | true =>
        go_wp2_with (go_at_call 80; refine (named1_any s _).mono ?_; rintro e w1 ⟨rfl, hb1⟩; rw [hp])
        go_ret
        exact ⟨by rw [show idxR l = k by unfold idxR; rw [findIdx_mk Hv.out hp Hn.out]]; first | done | rfl, below_only hb hb1⟩
      | false =>
        go_wp2_with (go_at_call 80; refine (named1_any s _).mono ?_; rintro e w1 ⟨rfl, hb1⟩; rw [hp])
        go_roundw
        case rel =>
          refine ⟨k + 1, hlt, by go_num, fun j y hj hy => ?_, below_only hb hb1⟩
          rcases Nat.lt_or_ge j k with h | h
          · exact Hn.out j y h hy
          · obtain rfl : j = k := by omega
            rw [Hv.out] at hy
            injection hy with hy
            subst hy
            exact hp
        case measure => simp [intOf]; omega
    · go_wp2
      go_ret
      refine ⟨?_, hb⟩
      have : idxR l = -1 := by
        unfold idxR
        cases h : l.findIdx? (fun x => !rgOk x) with
        | none => rfl
        | some i =>
          obtain ⟨y, h1, h2, h3, _⟩ := findIdx_some h
          have := Hn.out i y (by omega) h1
          rw [h3] at this
          cases this
      rw [this]
      first | done | rfl

set_option maxRecDepth 100000 in
set_option maxHeartbeats 400000 in
theorem contains_any (A : Option Addr) (c : Nat) (l : List Int) (w : World) (hl : l.length ≤ 8) (he : Cells w A (l.flatMap u8Cells)) :
    Calls Try.prog 79 #[.slice A l.length c, .func (.func 80) #[] #[]] w fun r w' => r = .returned (.bool (!(l.all rgOk))) ∧ Below w.heap.size w w' := by
  have HI := Lib.hid (idxf_any A c l w hl he)
  have hd := idxR_all l
  have hd2 : decide (0 ≤ idxR l) = !(l.all rgOk) := hd
  go_enter Try.func79, Try.ntmps79
  go_wp2_with fail
  refine HI.out.mono ?_
  rintro r w1 ⟨rfl, hb⟩
  go_wp2_with fail
  go_ret
  exact ⟨by first | rfl | rw [hd] | rw [hd2], hb⟩

set_option maxRecDepth 100000 in
set_option maxHeartbeats 400000 in
theorem named_any (A : Option Addr) (c : Nat) (l : List Int) (w : World) (hl : l.length ≤ 8) (he : Cells w A (l.flatMap u8Cells)) :
    Calls Try.prog 53 #[.slice A l.length c] w fun r w' => r = .returned (.bool (l.all rgOk)) ∧ Below w.heap.size w w' := by
  have HI := Lib.hid (contains_any A c l w hl he)
  go_enter Try.func53, Try.ntmps53
  go_wp2_with fail
  refine HI.out.mono ?_
  rintro r w1 ⟨rfl, hb⟩
  go_wp2_with fail
  go_ret
  exact ⟨by simp, hb⟩

/-- the first that is no OK -/
def firstC : List Int → Int
  | [] => 0
  | e :: r => if e = 0 then firstC r else e
theorem firstC_none {l : List Int} (h : ∀ (j : Nat) e, l[j]? = some e → e = 0) : firstC l = 0 := by
  induction l with
  | nil => rfl
  | cons a l ih => rw [firstC, if_pos (show a = 0 from h 0 a rfl)]; exact ih fun (j : Nat) e he => h (j + 1) e (by simpa using he)
theorem firstC_some {l : List Int} {k : Nat} {e : Int} (hk : l[k]? = some e) (he : e ≠ 0) (h : ∀ (j : Nat) e, j < k → l[j]? = some e → e = 0) : firstC l = e := by
  induction l generalizing k with
  | nil => simp at hk
  | cons a l ih =>
    cases k with
    | zero =>
      simp at hk
      subst hk
      rw [firstC, if_neg he]
    | succ k =>
      rw [firstC, if_pos (show a = 0 from h 0 a (by omega) rfl)]
      exact ih (by simpa using hk) fun (j : Nat) e hj hje => h (j + 1) e (by omega) (by simpa using hje)
abbrev i64Cells (x : Int) : List Value := [.int .i64 x]
theorem i64_at {w : World} {A : Option Addr} {l : List Int} (h : Cells w A (l.flatMap i64Cells)) (h0 : 0 < l.length) : ∃ b off, A = some ⟨b, off, none⟩ ∧ b < w.heap.size ∧ ∀ k x, l[k]? = some x → w.cell? ⟨b, off + k, none⟩ = some (.int .i64 x) := by
  obtain ⟨b, off, e, hb, hc⟩ := Cells.at_ h (by rw [flat_length i64Cells 1 (fun _ => rfl)]; omega)
  refine ⟨b, off, e, hb, fun k x hk => ?_⟩
  have := hc (k * 1 + 0) (.int .i64 x) (by rw [flat_get i64Cells 1 (fun _ => rfl) l k 0 (by omega), hk]; rfl)
  simpa using this

set_option maxRecDepth 100000 in
set_option maxHeartbeats 1000000 in
theorem first_any (A : Option Addr) (c : Nat) (l : List Int) (w : World) (hl : l.length ≤ 8) (he : Cells w A (l.flatMap i64Cells)) :
    Calls Try.prog 54 #[.slice A l.length c] w fun r w' => r = .returned (.int .i64 (firstC l)) ∧ w' = w := by
  have HR := Lib.hid he
  clear he
  go_enter Try.func54, Try.ntmps54
  go_wp2
  go_loopw [4, 7] (fun _ t wr => ∃ k : Nat, k ≤ l.length ∧ t = .int .i64 k ∧ (∀ j e, j < k → l[j]? = some e → e = 0) ∧ wr = w)
    (fun _ t _ => l.length - (intOf t).toNat)
  case atStart => exact ⟨0, Nat.zero_le _, rfl, by omega, rfl⟩
  case round =>
    obtain ⟨k, hk, rfl, hn, rfl⟩ := hrel
    have Hn := Lib.hid hn
    clear hn
    by_cases hlt : k < l.length
    · obtain ⟨s, hv⟩ : ∃ s, l[k]? = some s := ⟨_, List.getElem?_eq_getElem hlt⟩
      obtain ⟨b, off, rfl, hbl, hc⟩ := i64_at HR.out (by omega)
      have q0 := hc k s hv
      have Hv := Lib.hid hv
      clear hv hc
      by_cases hp : s = 0
      · subst hp
        go_wp2
        go_roundw
        case rel =>
          refine ⟨k + 1, hlt, by go_num, fun j y hj hy => ?_, by first | rfl | trivial⟩
          rcases Nat.lt_or_ge j k with h | h
          · exact Hn.out j y h hy
          · obtain rfl : j = k := by omega
            rw [Hv.out] at hy
            injection hy with hy
            exact hy.symm
        case measure => simp [intOf]; omega
      · have hp' : (s != 0) = true := by simpa using hp
        have Hp := Lib.hid hp
        clear hp
        go_wp2
        go_ret
        exact ⟨by rw [firstC_some Hv.out Hp.out Hn.out]; first | done | rfl, rfl⟩
    · go_wp2
      go_ret
      exact ⟨by rw [firstC_none fun j e hj => Hn.out j e (by have := (List.getElem?_eq_some_iff.1 hj).1; omega) hj]; first | done | rfl, rfl⟩

end Go.Proofs.Ytaneokplagdcfaa
