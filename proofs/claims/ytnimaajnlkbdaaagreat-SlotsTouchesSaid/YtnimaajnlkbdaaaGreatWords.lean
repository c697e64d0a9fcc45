/- The walk of words: all words of an arena, in a row of its own. -/
import Derived.Test.YtnimaajnlkbdaaaGreatME
namespace Go.Proofs.YtnimaajnlkbdaaaGreat
open Go.RowKit
set_option linter.unusedVariables false
set_option linter.unusedSimpArgs false

/-- words as a row of uint64 has them -/
abbrev wdCells (ws : List Int) : List Value := ws.map (Value.int .u64)
theorem infoW64 : (Tryz.prog.info? 23).map (fun i => (i.zero, i.size, i.bytes)) = some (some (.int .u64 0), 1, 8) := by kernel_rfl
theorem wd_len (ws : List Int) : (wdCells ws).length = ws.length := by simp
theorem wd_one (x : Int) : ∀ u ∈ [Value.int .u64 x], u.oneCell' = true := by
  intro u hu
  simp at hu
  subst hu
  rfl
theorem wd_take {ws : List Int} {k : Nat} {x : Int} (h : ws[k]? = some x) : wdCells (ws.take (k + 1)) = wdCells (ws.take k) ++ [Value.int .u64 x] := by
  simp [List.take_add_one, h]

set_option maxRecDepth 100000 in
set_option maxHeartbeats 2000000 in
theorem words_any (p b : Nat) (ws : List Int) (w : World) (h : Arn w p b ws) :
    Calls Tryz.prog 19 #[.pointer (some ⟨p, 0, none⟩)] w fun r w' => ∃ v, r = .returned v ∧ NewRow w ws.length (wdCells ws) v w' := by
  obtain ⟨i0, hi0, hz0, hz1, hz2⟩ := info_parts infoW64
  have hs := h.small
  obtain ⟨n, hn⟩ : ∃ n : Nat, n = ws.length * 8 := ⟨_, rfl⟩
  have n1 : n ≤ 65536 := by omega
  have Hn := Lib.hid hn
  have H := Lib.hid h
  have Hs := Lib.hid hs
  clear h hn hs
  go_enter Tryz.func19, Tryz.ntmps19
  go_wp2_with fail
  go_loopw [3, 4] (fun v t wr => ∃ (k o : Nat) (A : Option Addr) (c : Nat), k ≤ ws.length ∧ o = k * 8 ∧ v = .slice A k c ∧ t = .int .i64 o ∧ wr.ownsRow w.heap.size 23 1 (.slice A k c) k (wdCells (ws.take k)) ∧ Below w.heap.size w wr) (fun _ t _ => n - (intOf t).toNat)
  case atStart => exact ⟨0, 0, _, _, Nat.zero_le _, rfl, rfl, rfl, own_empty (Nat.le_refl _) (row_new _ _ _), (Below.refl _ _).alloc (Nat.le_refl _) _⟩
  case round =>
    obtain ⟨k, o, A, c, hk, ho, rfl, rfl, hown, hB⟩ := hrel
    have Hown := Lib.hid hown
    have HB := Lib.hid hB
    have HW := Lib.hid (H.out.below hB)
    have Ho := Lib.hid ho
    have Hk := Lib.hid hk
    have HL : Hid (∀ w0, Arn w0 p b ws → Calls Tryz.prog 51 #[.pointer (some ⟨p, 0, none⟩)] w0 fun r w' => r = .returned (.int .i64 (n : Int)) ∧ w' = w0) := Lib.hid fun w0 hA => by rw [Hn.out]; exact arnLen_any p b ws w0 hA
    clear hown hB ho hk
    by_cases hlt : k < ws.length
    · obtain ⟨x, hx⟩ : ∃ x, ws[k]? = some x := ⟨_, List.getElem?_eq_getElem hlt⟩
      have Hx := Lib.hid hx
      have HWd : Hid (∀ w0, Arn w0 p b ws → Calls Tryz.prog 17 #[.pointer (some ⟨p, 0, none⟩), .int .i64 (o : Int)] w0 fun r w' => r = .returned (.tuple #[.int .u64 x, .int .i64 0]) ∧ w' = w0) := Lib.hid fun w0 hA => by rw [Ho.out]; exact arnWord_any p b ws k x w0 hA Hx.out
      have hon : o < n := by have h1 := Ho.out; have h2 := Hn.out; omega
      have ho6 : (o : Int) < 65536 := by omega
      have hk2 : k ≤ 8192 := by have h2 := Hs.out; omega
      clear hx hlt
      go_wp2_with (first | (go_at_call 51; refine (HL.out _ HW.out).mono ?_; rintro r w1 ⟨rfl, rfl⟩) | (go_at_call 17; refine (HWd.out _ HW.out).mono ?_; rintro r w1 ⟨rfl, rfl⟩) | (at_builtin; refine wpList_append_any _ rfl (.tmp 24) (.tmp 26) _ (by rfl) w.heap.size 23 i0 _ 1 8 Tryz.underlying53 hi0 hz0 hz1 hz2 rfl (by omega) (.slice A k c) k (wdCells (ws.take k)) (by rfl) (own_below Hown.out (by go_grown)) (some ⟨w1.heap.size, 0, none⟩) 1 1 [.int .u64 x] (by rfl) rfl (cells_one (by simp [go_sem])) (wd_one x) (by simp only [maxLen]; omega) (by omega) (by simp; have := HB.out.size; omega) ?_; intro v6 w6 hown6 hg6 hat6))
      have B6 := Lib.hid (Below.grown (HB.out.alloc HB.out.size (.cells #[.int .u64 x] 23)) hg6 (by simp; have := HB.out.size; omega) (fun i hi => own_ge Hown.out i hi))
      go_roundw
      case rel =>
        obtain ⟨A6, c6, rfl, -, -, -⟩ := own_slice hown6
        exact ⟨k + 1, o + 8, A6, c6, by have h1 := Ho.out; have h2 := Hn.out; omega, by have h1 := Ho.out; omega, rfl, by go_num, by rw [wd_take Hx.out]; exact hown6, B6.out⟩
      case measure => simp [intOf]; omega
    · have hk1 : k = ws.length := by have := Hk.out; omega
      have hon : ¬ (o : Int) < (n : Int) := by have h1 := Ho.out; have h2 := Hn.out; omega
      have Hk1 := Lib.hid hk1
      clear hlt hk1
      go_wp2_with (go_at_call 51; refine (HL.out _ HW.out).mono ?_; rintro r w1 ⟨rfl, rfl⟩)
      go_ret
      exact ⟨_, rfl, newRow_of_own Hown.out Hk1.out (by rw [Hk1.out, List.take_of_length_le (Nat.le_refl _)]) (Nat.le_refl _) HB.out⟩

end Go.Proofs.YtnimaajnlkbdaaaGreat
