/- The document's arena in memory: words. The walks of its Is, Word, Put and Cas. -/
import Derived.Test.YtconieenkeajiaaArenaPlain
import Derived.Test.YtconieenkeajiaaHeap
import Derived.BigQuiet
namespace Go.Proofs.Ytconieenkeajiaa
open Go.RowKit
set_option linter.unusedVariables false

/-- the document's arena: its box q, its words b -/
structure RArn (w : World) (q b : Nat) (ws : List Int) : Prop where
  box : w.heap[q]? = some (.cells #[.slice (some ⟨b, 0, none⟩) ws.length ws.length] 125 (0, 0))
  row : w.heap[b]? = some (.cells (ws.map (Value.int .u64)).toArray 33 (0, 0))
  ok : ∀ x ∈ ws, 0 ≤ x ∧ x < 18446744073709551616
  ne : q ≠ b
  small : ws.length ≤ 8192
  some : 1 ≤ ws.length
section
variable {w w' : World} {q b : Nat} {ws : List Int}
theorem RArn.below (h : RArn w q b ws) (hb : Below w.heap.size w w') : RArn w' q b ws := { h with box := row_below h.box hb, row := row_below h.row hb }
theorem RArn.kept {S : List Nat} (h : RArn w q b ws) (k : Keep S w w') (hp : q ∉ S) (hb : b ∉ S) : RArn w' q b ws := { h with box := k.row h.box hp, row := k.row h.row hb }
theorem RArn.cell (h : RArn w q b ws) (k : Nat) (x : Int) (hk : ws[k]? = Option.some x) : w.cell? ⟨b, k, none⟩ = Option.some (.int .u64 x) := by
  rw [row_cell h.row, List.getElem?_toArray, List.getElem?_map, hk]; rfl
theorem RArn.store (h : RArn w q b ws) (k : Nat) (y : Int) (hy : 0 ≤ y ∧ y < 18446744073709551616) : RArn (w.setCell ⟨b, k, none⟩ (.int .u64 y)) q b (ws.set k y) := by
  refine ⟨?_, ?_, ?_, h.ne, by simpa using h.small, by simpa using h.some⟩
  · rw [List.length_set]
    exact (Below.heap_setCell _ _ _ _ h.ne).trans h.box
  · have := row_set (i := k) h.row (.int .u64 y)
    rw [this]
    congr 2
    rw [List.setIfInBounds_toArray, List.map_set]
  · intro z hz
    rcases List.mem_or_eq_of_mem_set hz with h1 | h1
    · exact h.ok z h1
    · rw [h1]; exact hy
end

set_option maxRecDepth 100000 in
set_option maxHeartbeats 1000000 in
theorem rarnIs_any (q b : Nat) (ws : List Int) (k : Nat) (a : Int) (w : World) (h : RArn w q b ws) (hk : k < ws.length) (ha : a = 8 * (k : Int)) :
    Calls Try.prog 61 #[.pointer (some ⟨q, 0, none⟩), .int .i64 a] w fun r w' => r = .returned (.bool true) ∧ w' = w := by
  have hs := h.small
  obtain ⟨p0, _⟩ := box1 h.box
  obtain ⟨n, Hn⟩ : ∃ n : Nat, n = ws.length := ⟨_, rfl⟩
  rw [← Hn] at p0
  have n1 : n ≤ 8192 := by omega
  have a0 : 0 ≤ a := by omega
  have a1 : a < 8 * (n : Int) := by omega
  have a2 : a ≤ 65536 := by omega
  have hm' : (a % 8 == 0) = true := by
    have : a % 8 = 0 := by omega
    simpa using this
  clear Hn hs h hk ha
  go_enter Try.func61, Try.ntmps61
  go_wp2
  go_ret
  exact ⟨rfl, rfl⟩

set_option maxRecDepth 100000 in
set_option maxHeartbeats 1000000 in
theorem rarnWord_any (q b : Nat) (ws : List Int) (k : Nat) (x a : Int) (w : World) (h : RArn w q b ws) (hk : ws[k]? = some x) (ha : a = 8 * (k : Int)) :
    Calls Try.prog 68 #[.pointer (some ⟨q, 0, none⟩), .int .i64 a] w fun r w' => r = .returned (.tuple #[.int .u64 x, .int .i64 0]) ∧ w' = w := by
  have hkl := (List.getElem?_eq_some_iff.1 hk).1
  have HI := Lib.hid (rarnIs_any q b ws k a w h hkl ha)
  have hs := h.small
  obtain ⟨p0, _⟩ := box1 h.box
  have c0 := h.cell k x hk
  obtain ⟨n, Hn⟩ : ∃ n : Nat, n = ws.length := ⟨_, rfl⟩
  rw [← Hn] at p0
  have n1 : n ≤ 8192 := by omega
  have k1 : k < n := by omega
  have a0 : 0 ≤ a := by omega
  have a2 : a ≤ 65536 := by omega
  have e1 : a.tdiv 8 = k := by rw [Int.tdiv_eq_ediv_of_nonneg (by omega)]; omega
  have e2 : a / 8 = k := by omega
  clear Hn hs h hk ha hkl
  go_enter Try.func68, Try.ntmps68
  go_wp2_with (go_at_call 61; refine HI.out.mono ?_; rintro r w1 ⟨rfl, rfl⟩)
  go_ret2
  exact ⟨rfl, rfl⟩

set_option maxRecDepth 100000 in
set_option maxHeartbeats 1000000 in
theorem rarnPut_any (q b : Nat) (ws : List Int) (k : Nat) (x y a : Int) (w : World) (h : RArn w q b ws) (hk : ws[k]? = some x) (ha : a = 8 * (k : Int)) (hy : 0 ≤ y ∧ y < 18446744073709551616) :
    Calls Try.prog 32 #[.pointer (some ⟨q, 0, none⟩), .int .i64 a, .int .u64 y] w fun r w' => r = .returned (.int .i64 0) ∧ RArn w' q b (ws.set k y) ∧ Keep [b] w w' := by
  have hkl := (List.getElem?_eq_some_iff.1 hk).1
  have HI := Lib.hid (rarnIs_any q b ws k a w h hkl ha)
  have hs := h.small
  obtain ⟨p0, _⟩ := box1 h.box
  have c0 := h.cell k x hk
  have c0f : w.frozen? ⟨b, k, none⟩ = false := row_frozen h.row _
  have HS := Lib.hid (h.store k y hy)
  have HK := Lib.hid ((Keep.refl [b] w).setCell (p := ⟨b, k, none⟩) (.inl (by simp)) (.int .u64 y))
  obtain ⟨n, Hn⟩ : ∃ n : Nat, n = ws.length := ⟨_, rfl⟩
  rw [← Hn] at p0
  have n1 : n ≤ 8192 := by omega
  have k1 : k < n := by omega
  have a0 : 0 ≤ a := by omega
  have a2 : a ≤ 65536 := by omega
  have e1 : a.tdiv 8 = k := by rw [Int.tdiv_eq_ediv_of_nonneg (by omega)]; omega
  have e2 : a / 8 = k := by omega
  clear Hn hs h hk ha hkl hy
  go_enter Try.func32, Try.ntmps32
  go_wp2_with (go_at_call 61; refine HI.out.mono ?_; rintro r w1 ⟨rfl, rfl⟩)
  go_ret
  exact ⟨rfl, HS.out, HK.out⟩

set_option maxRecDepth 100000 in
set_option maxHeartbeats 1000000 in
theorem rarnCas_no (q b : Nat) (ws : List Int) (k : Nat) (x old y a : Int) (w : World) (h : RArn w q b ws) (hk : ws[k]? = some x) (ha : a = 8 * (k : Int)) (hne : x ≠ old) :
    Calls Try.prog 37 #[.pointer (some ⟨q, 0, none⟩), .int .i64 a, .int .u64 old, .int .u64 y] w fun r w' => r = .returned (.tuple #[.bool false, .int .i64 0]) ∧ w' = w := by
  have HW := Lib.hid (rarnWord_any q b ws k x a w h hk ha)
  have hne' : (x != old) = true := by simpa using hne
  clear hne h hk ha
  go_enter Try.func37, Try.ntmps37
  go_wp2_with (go_at_call 68; refine HW.out.mono ?_; rintro r w1 ⟨rfl, rfl⟩)
  go_ret2
  exact ⟨rfl, rfl⟩

set_option maxRecDepth 100000 in
set_option maxHeartbeats 1000000 in
theorem rarnCas_yes (q b : Nat) (ws : List Int) (k : Nat) (x y a : Int) (w : World) (h : RArn w q b ws) (hk : ws[k]? = some x) (ha : a = 8 * (k : Int)) (hy : 0 ≤ y ∧ y < 18446744073709551616) :
    Calls Try.prog 37 #[.pointer (some ⟨q, 0, none⟩), .int .i64 a, .int .u64 x, .int .u64 y] w fun r w' => r = .returned (.tuple #[.bool true, .int .i64 0]) ∧ RArn w' q b (ws.set k y) ∧ Keep [b] w w' := by
  have HW := Lib.hid (rarnWord_any q b ws k x a w h hk ha)
  have HP := Lib.hid (rarnPut_any q b ws k x y a w h hk ha hy)
  clear h hk hy ha
  go_enter Try.func37, Try.ntmps37
  go_wp2_with fail
  refine HW.out.mono ?_
  rintro r w1 ⟨rfl, e1⟩
  rw [e1]
  clear e1 w1
  go_wp2_with fail
  refine HP.out.mono ?_
  rintro r w2 ⟨rfl, hA, hK⟩
  have HA := Lib.hid hA
  have HKp := Lib.hid hK
  clear hA hK
  go_wp2_with fail
  go_ret2
  exact ⟨rfl, HA.out, HKp.out⟩

end Go.Proofs.Ytconieenkeajiaa
