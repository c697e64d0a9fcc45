/- The walk of the reference's Fit: entries that a thread may have. -/
import Derived.Test.YtaneokplagdcfaaChainE
import Derived.Test.YtaneokplagdcfaaBits
import Derived.Test.YtaneokplagdcfaaMore
namespace Go.Proofs.Ytaneokplagdcfaa
open Go.RowKit

def keepB (o : List Ent) (s : Int) (x : Bool) : Bool := bif x then (decide (0 < s) && (par o s == -1 || par o s == area o)) else reach o s
def fitFrom (o : List Ent) : List Ent → List Ent
  | [] => o
  | e :: l => if 5 ≤ o.length then o else fitFrom (bif keepB o (e.1 % 8) e.2 then o ++ [(e.1 % 8, e.2)] else o) l
def fit (l : List Ent) : List Ent := fitFrom [] l
theorem fitFrom_full (o l : List Ent) (h : 5 ≤ o.length) : fitFrom o l = o := by
  cases l with
  | nil => rfl
  | cons a l => rw [fitFrom, if_pos h]
theorem fitFrom_next (o l : List Ent) (k : Nat) (s : Int) (x : Bool) (hv : l[k]? = some (s, x)) (h : o.length < 5) :
    fitFrom o (l.drop k) = fitFrom (bif keepB o (s % 8) x then o ++ [(s % 8, x)] else o) (l.drop (k + 1)) := by
  have hk : k < l.length := by
    rcases Nat.lt_or_ge k l.length with h | h
    · exact h
    · rw [List.getElem?_eq_none h] at hv; cases hv
  rw [List.drop_eq_getElem_cons hk, fitFrom, if_neg (by omega)]
  rw [List.getElem?_eq_getElem hk] at hv
  injection hv with hv
  rw [hv]

attribute [local go_sem] mask3

set_option maxRecDepth 100000 in
set_option maxRecDepth 100000 in
set_option maxHeartbeats 1000000 in
theorem fit_any (A : Option Addr) (c : Nat) (l : List Ent) (w : World) (hl : l.length ≤ 9223372036854775807) (he : Ents w A l) :
    Calls Try.prog 9 #[.slice A l.length c] w fun e w' => ∃ v, e = .returned v ∧ NewEnts w (fit l) v w' := by
  obtain ⟨i0, hi0, hz0, hz1, hz2⟩ := info_parts infoEnt
  go_enter Try.func9, Try.ntmps9
  go_wp2
  go_loopw [3, 4] (fun v t wr => ∃ (k : Nat) (o : List Ent), k ≤ l.length ∧ t = .int .i64 k ∧ o.length ≤ 5 ∧ fitFrom o (l.drop k) = fit l ∧ wr.ownsRow w.heap.size 66 2 v o.length (o.flatMap entCells) ∧ Below w.heap.size w wr)
    (fun _ t _ => l.length - (intOf t).toNat)
  case atStart => exact ⟨0, [], Nat.zero_le _, rfl, Nat.zero_le _, rfl, own_empty (Nat.le_refl _) (row_new _ _ _), by go_grown⟩
  case round =>
    obtain ⟨k, o, hk, rfl, ho, hf, hown, hB⟩ := hrel
    obtain ⟨A1, c1, rfl, hc1, hc2, hcs⟩ := own_slice hown
    have Hown := Lib.hid hown
    clear hown
    by_cases hlt : k < l.length
    · by_cases h5 : o.length < 5
      · obtain ⟨b, off, rfl, hb, hc⟩ := he.at_ (by omega)
        obtain ⟨s, x, hv⟩ : ∃ s x, l[k]? = some (s, x) := ⟨_, _, List.getElem?_eq_getElem hlt⟩
        rw [fitFrom_next o l k s x hv h5] at hf
        obtain ⟨h0, h1⟩ := hc k s x hv
        rw [← hB.cell (p := ⟨b, off + k * 2, none⟩) hb] at h0
        rw [← hB.cell (p := ⟨b, off + k * 2 + 1, none⟩) hb] at h1
        have hbw : b < wr.heap.size := Nat.lt_of_lt_of_le hb hB.size
        have hBs := hB.size
        have Hf := Lib.hid hf
        clear hf hc he hv
        cases x with
        | true =>
          cases hp : decide (0 < s % 8) with
          | false =>
            have hp' := hp
            have hE : Ents ((wr.alloc (.cells #[.int .i64 (s % 8), .bool true] 66)).drew) A1 o := Cells.drew (Cells.alloc hcs _)
            have hk1 : keepB o (s % 8) true = false := by simp [keepB, hp']
            have Hk := Lib.hid hk1
            clear hcs hk1
            go_wp2
            go_region
            go_wp2_with (first | (go_at_call 21; refine (rreach_any _ _ o _ _ (by omega) hE).mono ?_; rintro e w1 ⟨rfl, rfl⟩) | (go_at_call 22; refine (rpar_any _ _ o _ _ (by omega) (by omega) hE).mono ?_; rintro e w1 ⟨rfl, rfl⟩) | (go_at_call 20; refine (rarea_any _ _ o _ (by omega) hE).mono ?_; rintro e w1 ⟨rfl, rfl⟩))
            go_roundw
            case measure => simp [intOf]; omega
            case rel =>
              refine ⟨k + 1, o, by omega, by go_num, by omega, ?_, own_below Hown.out (by go_grown), by go_grown⟩
              have := Hf.out
              rw [Hk.out] at this
              exact this
          | true =>
            cases hq : (par o (s % 8) == -1) with
            | true =>
              have hp' := hp
              have hq' := hq
              have hE : Ents ((wr.alloc (.cells #[.int .i64 (s % 8), .bool true] 66)).drew) A1 o := Cells.drew (Cells.alloc hcs _)
              have hk1 : keepB o (s % 8) true = true := by simp [keepB, hp', hq']
              have Hk := Lib.hid hk1
              clear hcs hk1
              go_wp2
              go_region
              go_wp2_with (first | (go_at_call 21; refine (rreach_any _ _ o _ _ (by omega) hE).mono ?_; rintro e w1 ⟨rfl, rfl⟩) | (go_at_call 22; refine (rpar_any _ _ o _ _ (by omega) (by omega) hE).mono ?_; rintro e w1 ⟨rfl, rfl⟩) | (go_at_call 20; refine (rarea_any _ _ o _ (by omega) hE).mono ?_; rintro e w1 ⟨rfl, rfl⟩) | (at_builtin; refine wpList_append_any _ rfl (.tmp 68) (.tmp 70) 26 rfl w.heap.size 66 i0 _ 2 16 Try.underlying26 hi0 hz0 hz1 hz2 rfl (by omega) (.slice A1 o.length c1) o.length (o.flatMap entCells) rfl (own_below Hown.out (by go_grown)) (some ⟨wr.heap.size + 1, 0, none⟩) 1 1 (entCells (s % 8, true)) rfl rfl (cells_two (by simp [go_sem]) (by simp [go_sem])) (entCells_one _) (by simp only [maxLen]; omega) (by omega) (by simp; have := hB.size; omega) ?_; intro v1 w2 hown1 hg1 hat1))
              go_roundw
              case measure => simp [intOf]; omega
              case rel =>
                refine ⟨k + 1, o ++ [(s % 8, true)], by omega, by go_num, by simp; omega, ?_, ?_, ?_⟩
                · have := Hf.out
                  rw [Hk.out] at this
                  exact this
                · rw [List.length_append, List.flatMap_append]
                  simpa using hown1
                · exact Below.grown (by go_grown) hg1 (by simp; omega) (own_ge Hown.out)
            | false =>
              cases ha : (par o (s % 8) == area o) with
              | true =>
                have hp' := hp
                have hq' := hq
                have ha' := ha
                have hE : Ents ((wr.alloc (.cells #[.int .i64 (s % 8), .bool true] 66)).drew) A1 o := Cells.drew (Cells.alloc hcs _)
                have hk1 : keepB o (s % 8) true = true := by simp [keepB, hp', hq', ha']
                have Hk := Lib.hid hk1
                clear hcs hk1
                go_wp2
                go_region
                go_wp2_with (first | (go_at_call 21; refine (rreach_any _ _ o _ _ (by omega) hE).mono ?_; rintro e w1 ⟨rfl, rfl⟩) | (go_at_call 22; refine (rpar_any _ _ o _ _ (by omega) (by omega) hE).mono ?_; rintro e w1 ⟨rfl, rfl⟩) | (go_at_call 20; refine (rarea_any _ _ o _ (by omega) hE).mono ?_; rintro e w1 ⟨rfl, rfl⟩) | (at_builtin; refine wpList_append_any _ rfl (.tmp 68) (.tmp 70) 26 rfl w.heap.size 66 i0 _ 2 16 Try.underlying26 hi0 hz0 hz1 hz2 rfl (by omega) (.slice A1 o.length c1) o.length (o.flatMap entCells) rfl (own_below Hown.out (by go_grown)) (some ⟨wr.heap.size + 1, 0, none⟩) 1 1 (entCells (s % 8, true)) rfl rfl (cells_two (by simp [go_sem]) (by simp [go_sem])) (entCells_one _) (by simp only [maxLen]; omega) (by omega) (by simp; have := hB.size; omega) ?_; intro v1 w2 hown1 hg1 hat1))
                go_roundw
                case measure => simp [intOf]; omega
                case rel =>
                  refine ⟨k + 1, o ++ [(s % 8, true)], by omega, by go_num, by simp; omega, ?_, ?_, ?_⟩
                  · have := Hf.out
                    rw [Hk.out] at this
                    exact this
                  · rw [List.length_append, List.flatMap_append]
                    simpa using hown1
                  · exact Below.grown (by go_grown) hg1 (by simp; omega) (own_ge Hown.out)
              | false =>
                have hp' := hp
                have hq' := hq
                have ha' := ha
                have hE : Ents ((wr.alloc (.cells #[.int .i64 (s % 8), .bool true] 66)).drew) A1 o := Cells.drew (Cells.alloc hcs _)
                have hk1 : keepB o (s % 8) true = false := by simp [keepB, hp', hq', ha']
                have Hk := Lib.hid hk1
                clear hcs hk1
                go_wp2
                go_region
                go_wp2_with (first | (go_at_call 21; refine (rreach_any _ _ o _ _ (by omega) hE).mono ?_; rintro e w1 ⟨rfl, rfl⟩) | (go_at_call 22; refine (rpar_any _ _ o _ _ (by omega) (by omega) hE).mono ?_; rintro e w1 ⟨rfl, rfl⟩) | (go_at_call 20; refine (rarea_any _ _ o _ (by omega) hE).mono ?_; rintro e w1 ⟨rfl, rfl⟩))
                go_roundw
                case measure => simp [intOf]; omega
                case rel =>
                  refine ⟨k + 1, o, by omega, by go_num, by omega, ?_, own_below Hown.out (by go_grown), by go_grown⟩
                  have := Hf.out
                  rw [Hk.out] at this
                  exact this
        | false =>
          cases hr : reach o (s % 8) with
          | true =>
            have hr' := hr
            have hE : Ents ((wr.alloc (.cells #[.int .i64 (s % 8), .bool false] 66)).drew) A1 o := Cells.drew (Cells.alloc hcs _)
            have hk1 : keepB o (s % 8) false = true := by simp [keepB, hr']
            have Hk := Lib.hid hk1
            clear hcs hk1
            go_wp2
            go_region
            go_wp2_with (first | (go_at_call 21; refine (rreach_any _ _ o _ _ (by omega) hE).mono ?_; rintro e w1 ⟨rfl, rfl⟩) | (go_at_call 22; refine (rpar_any _ _ o _ _ (by omega) (by omega) hE).mono ?_; rintro e w1 ⟨rfl, rfl⟩) | (go_at_call 20; refine (rarea_any _ _ o _ (by omega) hE).mono ?_; rintro e w1 ⟨rfl, rfl⟩) | (at_builtin; refine wpList_append_any _ rfl (.tmp 68) (.tmp 70) 26 rfl w.heap.size 66 i0 _ 2 16 Try.underlying26 hi0 hz0 hz1 hz2 rfl (by omega) (.slice A1 o.length c1) o.length (o.flatMap entCells) rfl (own_below Hown.out (by go_grown)) (some ⟨wr.heap.size + 1, 0, none⟩) 1 1 (entCells (s % 8, false)) rfl rfl (cells_two (by simp [go_sem]) (by simp [go_sem])) (entCells_one _) (by simp only [maxLen]; omega) (by omega) (by simp; have := hB.size; omega) ?_; intro v1 w2 hown1 hg1 hat1))
            go_roundw
            case measure => simp [intOf]; omega
            case rel =>
              refine ⟨k + 1, o ++ [(s % 8, false)], by omega, by go_num, by simp; omega, ?_, ?_, ?_⟩
              · have := Hf.out
                rw [Hk.out] at this
                exact this
              · rw [List.length_append, List.flatMap_append]
                simpa using hown1
              · exact Below.grown (by go_grown) hg1 (by simp; omega) (own_ge Hown.out)
          | false =>
            have hr' := hr
            have hE : Ents ((wr.alloc (.cells #[.int .i64 (s % 8), .bool false] 66)).drew) A1 o := Cells.drew (Cells.alloc hcs _)
            have hk1 : keepB o (s % 8) false = false := by simp [keepB, hr']
            have Hk := Lib.hid hk1
            clear hcs hk1
            go_wp2
            go_region
            go_wp2_with (first | (go_at_call 21; refine (rreach_any _ _ o _ _ (by omega) hE).mono ?_; rintro e w1 ⟨rfl, rfl⟩) | (go_at_call 22; refine (rpar_any _ _ o _ _ (by omega) (by omega) hE).mono ?_; rintro e w1 ⟨rfl, rfl⟩) | (go_at_call 20; refine (rarea_any _ _ o _ (by omega) hE).mono ?_; rintro e w1 ⟨rfl, rfl⟩))
            go_roundw
            case measure => simp [intOf]; omega
            case rel =>
              refine ⟨k + 1, o, by omega, by go_num, by omega, ?_, own_below Hown.out (by go_grown), by go_grown⟩
              have := Hf.out
              rw [Hk.out] at this
              exact this
      · obtain h5' : o.length = 5 := by omega
        have Hf := Lib.hid (fitFrom_full o (l.drop k) (by omega) ▸ hf)
        clear hf hcs
        go_wp2
        go_ret
        exact ⟨_, rfl, newRow_of_own Hown.out (by rw [Hf.out]) (by rw [Hf.out]) (Nat.le_refl _) hB⟩
    · obtain rfl : k = l.length := by omega
      rw [List.drop_length] at hf
      have Hf := Lib.hid (show o = fit l from hf)
      clear hf hcs
      go_wp2
      go_ret
      exact ⟨_, rfl, newRow_of_own Hown.out (by rw [Hf.out]) (by rw [Hf.out]) (Nat.le_refl _) hB⟩

end Go.Proofs.Ytaneokplagdcfaa
