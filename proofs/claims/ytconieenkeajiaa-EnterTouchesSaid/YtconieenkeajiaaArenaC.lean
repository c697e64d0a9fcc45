/- The walks of arena's Put and Cas. -/
import Derived.Test.YtconieenkeajiaaArenaB
import Derived.RegionTactic
namespace Go.Proofs.Ytconieenkeajiaa
open Go.RowKit
set_option linter.unusedVariables false

set_option maxRecDepth 100000 in
set_option maxHeartbeats 2000000 in
theorem arnPut_any (p b : Nat) (ws : List Int) (k : Nat) (x y : Int) (w : World) (h : Arn w p b ws) (hk : ws[k]? = some x) (hy : 0 ≤ y ∧ y < 18446744073709551616) :
    Calls Try.prog 13 #[.pointer (some ⟨p, 0, none⟩), .int .i64 ((k * 8 : Nat) : Int), .int .u64 y] w fun r w' => r = .returned (.int .i64 0) ∧ Arn w' p b (ws.set k y) ∧ Keep [b] w w' := by
  have hkl := (List.getElem?_eq_some_iff.1 hk).1
  have hs := h.small
  have hne := h.ne
  have HI := Lib.hid (arnIs_any p b ws ((k * 8 : Nat) : Int) w h (by omega))
  have Hn := Lib.hid (show atB ws ((k * 8 : Nat) : Int) = true from decide_eq_true (by omega))
  obtain ⟨p0, _⟩ := box1 h.box
  obtain ⟨n, Hnn⟩ : ∃ n : Nat, n = ws.length * 8 := ⟨_, rfl⟩
  rw [← Hnn] at p0
  have HA := Lib.hid h
  have HK := Lib.hid hk
  have HKl := Lib.hid hkl
  have Hmk : Hid (∀ m, m = k * 8 → True) := Lib.hid fun _ _ => trivial
  obtain ⟨m, Hm⟩ : ∃ m : Nat, m = k * 8 := ⟨_, rfl⟩
  rw [← Hm] at HI Hn ⊢
  have HM := Lib.hid Hm
  have m0 : m + 8 ≤ n := by omega
  have n1 : n ≤ 65536 := by omega
  have Hy := Lib.hid hy
  have HN := Lib.hid Hnn
  obtain ⟨y0, y1⟩ := hy
  clear Hnn Hm hkl hs h hk
  go_enter Try.func13, Try.ntmps13
  go_wp2_with (go_at_call 31; refine HI.out.mono ?_; rintro r w1 ⟨rfl, e1⟩; rw [e1]; clear e1 w1; rw [Hn.out])
  go_loopw [12] (fun i wr => ∃ j : Int, 0 ≤ j ∧ j ≤ 8 ∧ i = .int .i64 j ∧ wr.heap[b]? = some (.cells (halfCells ws k x y j.toNat).toArray 5 (0, 0)) ∧ Keep [b] w wr) (fun i _ => (8 - intOf i).toNat)
  case atStart => exact ⟨0, by omega, by omega, rfl, by rw [show (0 : Int).toNat = 0 from rfl, half_zero HK.out]; exact HA.out.row, Keep.refl _ _⟩
  case round =>
    obtain ⟨j, j0, j8, rfl, hrow, hK⟩ := hrel
    have HR := Lib.hid hrow
    have HKp := Lib.hid hK
    obtain ⟨q0, _⟩ := box1 (hK.row HA.out.box (by simpa using hne))
    rw [← HN.out] at q0
    have hbf : ∀ o, wr.frozen? ⟨b, o, none⟩ = false := fun o => row_frozen hrow o
    have zb := lt_of_heap hrow
    clear hrow hK
    by_cases hlt : j < 8
    · obtain rfl | rfl | rfl | rfl | rfl | rfl | rfl | rfl : j = 0 ∨ j = 1 ∨ j = 2 ∨ j = 3 ∨ j = 4 ∨ j = 5 ∨ j = 6 ∨ j = 7 := by omega
      · obtain ⟨u, hu⟩ : ∃ u, (halfCells ws k x y 0)[k * 8 + 0]? = some u := ⟨_, List.getElem?_eq_getElem (by rw [half_len HKl.out]; have := HKl.out; omega)⟩
        have hc : wr.cell? ⟨b, m, none⟩ = some u := by rw [row_cell HR.out, HM.out, List.getElem?_toArray]; exact hu
        have HS := Lib.hid (half_set HKl.out x y 0 (by omega))
        have tn : ((m : Int)).toNat = m := by omega
        clear hu
        go_wp2
        go_region
        go_wp2
        go_roundw
        case rel => exact ⟨1, by omega, by omega, rfl, heap_drew ((row_set (i := m) HR.out _).trans (by rw [HM.out, List.setIfInBounds_toArray]; first | (rw [show (1 : Int).toNat = 1 from rfl, ← HS.out]; rfl) | (rw [show (1 : Int).toNat = 1 from rfl, ← HS.out]; simp [byteOf]))), (HKp.out.setCell (p := ⟨b, m, none⟩) (.inl (by simp)) _).drew⟩
        case measure => simp [intOf]
      · obtain ⟨u, hu⟩ : ∃ u, (halfCells ws k x y 1)[k * 8 + 1]? = some u := ⟨_, List.getElem?_eq_getElem (by rw [half_len HKl.out]; have := HKl.out; omega)⟩
        have hc : wr.cell? ⟨b, m + 1, none⟩ = some u := by rw [row_cell HR.out, HM.out, List.getElem?_toArray]; exact hu
        have HS := Lib.hid (half_set HKl.out x y 1 (by omega))
        have tn : ((m : Int) + 1).toNat = m + 1 := by omega
        clear hu
        go_wp2
        go_region
        go_wp2
        go_roundw
        case rel => exact ⟨2, by omega, by omega, rfl, heap_drew ((row_set (i := m + 1) HR.out _).trans (by rw [HM.out, List.setIfInBounds_toArray]; first | (rw [show (2 : Int).toNat = 2 from rfl, ← HS.out]; rfl) | (rw [show (2 : Int).toNat = 2 from rfl, ← HS.out]; simp [byteOf]))), (HKp.out.setCell (p := ⟨b, m + 1, none⟩) (.inl (by simp)) _).drew⟩
        case measure => simp [intOf]
      · obtain ⟨u, hu⟩ : ∃ u, (halfCells ws k x y 2)[k * 8 + 2]? = some u := ⟨_, List.getElem?_eq_getElem (by rw [half_len HKl.out]; have := HKl.out; omega)⟩
        have hc : wr.cell? ⟨b, m + 2, none⟩ = some u := by rw [row_cell HR.out, HM.out, List.getElem?_toArray]; exact hu
        have HS := Lib.hid (half_set HKl.out x y 2 (by omega))
        have tn : ((m : Int) + 2).toNat = m + 2 := by omega
        clear hu
        go_wp2
        go_region
        go_wp2
        go_roundw
        case rel => exact ⟨3, by omega, by omega, rfl, heap_drew ((row_set (i := m + 2) HR.out _).trans (by rw [HM.out, List.setIfInBounds_toArray]; first | (rw [show (3 : Int).toNat = 3 from rfl, ← HS.out]; rfl) | (rw [show (3 : Int).toNat = 3 from rfl, ← HS.out]; simp [byteOf]))), (HKp.out.setCell (p := ⟨b, m + 2, none⟩) (.inl (by simp)) _).drew⟩
        case measure => simp [intOf]
      · obtain ⟨u, hu⟩ : ∃ u, (halfCells ws k x y 3)[k * 8 + 3]? = some u := ⟨_, List.getElem?_eq_getElem (by rw [half_len HKl.out]; have := HKl.out; omega)⟩
        have hc : wr.cell? ⟨b, m + 3, none⟩ = some u := by rw [row_cell HR.out, HM.out, List.getElem?_toArray]; exact hu
        have HS := Lib.hid (half_set HKl.out x y 3 (by omega))
        have tn : ((m : Int) + 3).toNat = m + 3 := by omega
        clear hu
        go_wp2
        go_region
        go_wp2
        go_roundw
        case rel => exact ⟨4, by omega, by omega, rfl, heap_drew ((row_set (i := m + 3) HR.out _).trans (by rw [HM.out, List.setIfInBounds_toArray]; first | (rw [show (4 : Int).toNat = 4 from rfl, ← HS.out]; rfl) | (rw [show (4 : Int).toNat = 4 from rfl, ← HS.out]; simp [byteOf]))), (HKp.out.setCell (p := ⟨b, m + 3, none⟩) (.inl (by simp)) _).drew⟩
        case measure => simp [intOf]
      · obtain ⟨u, hu⟩ : ∃ u, (halfCells ws k x y 4)[k * 8 + 4]? = some u := ⟨_, List.getElem?_eq_getElem (by rw [half_len HKl.out]; have := HKl.out; omega)⟩
        have hc : wr.cell? ⟨b, m + 4, none⟩ = some u := by rw [row_cell HR.out, HM.out, List.getElem?_toArray]; exact hu
        have HS := Lib.hid (half_set HKl.out x y 4 (by omega))
        have tn : ((m : Int) + 4).toNat = m + 4 := by omega
        clear hu
        go_wp2
        go_region
        go_wp2
        go_roundw
        case rel => exact ⟨5, by omega, by omega, rfl, heap_drew ((row_set (i := m + 4) HR.out _).trans (by rw [HM.out, List.setIfInBounds_toArray]; first | (rw [show (5 : Int).toNat = 5 from rfl, ← HS.out]; rfl) | (rw [show (5 : Int).toNat = 5 from rfl, ← HS.out]; simp [byteOf]))), (HKp.out.setCell (p := ⟨b, m + 4, none⟩) (.inl (by simp)) _).drew⟩
        case measure => simp [intOf]
      · obtain ⟨u, hu⟩ : ∃ u, (halfCells ws k x y 5)[k * 8 + 5]? = some u := ⟨_, List.getElem?_eq_getElem (by rw [half_len HKl.out]; have := HKl.out; omega)⟩
        have hc : wr.cell? ⟨b, m + 5, none⟩ = some u := by rw [row_cell HR.out, HM.out, List.getElem?_toArray]; exact hu
        have HS := Lib.hid (half_set HKl.out x y 5 (by omega))
        have tn : ((m : Int) + 5).toNat = m + 5 := by omega
        clear hu
        go_wp2
        go_region
        go_wp2
        go_roundw
        case rel => exact ⟨6, by omega, by omega, rfl, heap_drew ((row_set (i := m + 5) HR.out _).trans (by rw [HM.out, List.setIfInBounds_toArray]; first | (rw [show (6 : Int).toNat = 6 from rfl, ← HS.out]; rfl) | (rw [show (6 : Int).toNat = 6 from rfl, ← HS.out]; simp [byteOf]))), (HKp.out.setCell (p := ⟨b, m + 5, none⟩) (.inl (by simp)) _).drew⟩
        case measure => simp [intOf]
      · obtain ⟨u, hu⟩ : ∃ u, (halfCells ws k x y 6)[k * 8 + 6]? = some u := ⟨_, List.getElem?_eq_getElem (by rw [half_len HKl.out]; have := HKl.out; omega)⟩
        have hc : wr.cell? ⟨b, m + 6, none⟩ = some u := by rw [row_cell HR.out, HM.out, List.getElem?_toArray]; exact hu
        have HS := Lib.hid (half_set HKl.out x y 6 (by omega))
        have tn : ((m : Int) + 6).toNat = m + 6 := by omega
        clear hu
        go_wp2
        go_region
        go_wp2
        go_roundw
        case rel => exact ⟨7, by omega, by omega, rfl, heap_drew ((row_set (i := m + 6) HR.out _).trans (by rw [HM.out, List.setIfInBounds_toArray]; first | (rw [show (7 : Int).toNat = 7 from rfl, ← HS.out]; rfl) | (rw [show (7 : Int).toNat = 7 from rfl, ← HS.out]; simp [byteOf]))), (HKp.out.setCell (p := ⟨b, m + 6, none⟩) (.inl (by simp)) _).drew⟩
        case measure => simp [intOf]
      · obtain ⟨u, hu⟩ : ∃ u, (halfCells ws k x y 7)[k * 8 + 7]? = some u := ⟨_, List.getElem?_eq_getElem (by rw [half_len HKl.out]; have := HKl.out; omega)⟩
        have hc : wr.cell? ⟨b, m + 7, none⟩ = some u := by rw [row_cell HR.out, HM.out, List.getElem?_toArray]; exact hu
        have HS := Lib.hid (half_set HKl.out x y 7 (by omega))
        have tn : ((m : Int) + 7).toNat = m + 7 := by omega
        clear hu
        go_wp2
        go_region
        go_wp2
        go_roundw
        case rel => exact ⟨8, by omega, by omega, rfl, heap_drew ((row_set (i := m + 7) HR.out _).trans (by rw [HM.out, List.setIfInBounds_toArray]; first | (rw [show (8 : Int).toNat = 8 from rfl, ← HS.out]; rfl) | (rw [show (8 : Int).toNat = 8 from rfl, ← HS.out]; (have e7 : y / 72057594037927936 % 256 = y / 72057594037927936 := by omega); simp [byteOf, e7]))), (HKp.out.setCell (p := ⟨b, m + 7, none⟩) (.inl (by simp)) _).drew⟩
        case measure => simp [intOf]
    · obtain rfl : j = 8 := by omega
      go_wp2
      go_ret
      have hr := HR.out
      rw [show (8 : Int).toNat = 8 from rfl, half_eight HK.out] at hr
      refine ⟨rfl, ⟨?_, hr, ?_, HA.out.ne, (by simpa using HA.out.small), (by simpa using HA.out.some)⟩, HKp.out⟩
      · rw [List.length_set]
        exact HKp.out.row HA.out.box (by simpa using hne)
      · intro z hz
        rcases List.mem_or_eq_of_mem_set hz with h1 | h1
        · exact HA.out.ok z h1
        · rw [h1]; exact Hy.out

end Go.Proofs.Ytconieenkeajiaa
