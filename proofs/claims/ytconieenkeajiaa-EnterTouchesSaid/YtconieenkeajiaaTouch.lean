/- Entries on their way, what they saw, and what a step makes of them. -/
import Derived.Test.YtconieenkeajiaaWay
import Derived.Test.YtconieenkeajiaaArenaD
namespace Go.Proofs.Ytconieenkeajiaa
open Go.RowKit
set_option linter.unusedVariables false
set_option linter.unusedSimpArgs false

/-- words as a row of uint64 has them -/
abbrev wdCells (ws : List Int) : List Value := ws.map (Value.int .u64)
theorem infoW64 : (Try.prog.info? 33).map (fun i => (i.zero, i.size, i.bytes)) = some (some (.int .u64 0), 1, 8) := by kernel_rfl
theorem wd_len (ws : List Int) : (wdCells ws).length = ws.length := by simp
theorem wd_one (x : Int) : ∀ u ∈ [Value.int .u64 x], u.oneCell' = true := by
  intro u hu
  simp at hu
  subst hu
  rfl
theorem wd_take {ws : List Int} {k : Nat} {x : Int} (h : ws[k]? = some x) : wdCells (ws.take (k + 1)) = wdCells (ws.take k) ++ [Value.int .u64 x] := by
  simp [List.take_add_one, h]

set_option maxRecDepth 100000 in
set_option maxHeartbeats 2000000 in
theorem words_any (p b : Nat) (ws : List Int) (w : World) (h : Arn w p b ws) :
    Calls Try.prog 27 #[.pointer (some ⟨p, 0, none⟩)] w fun r w' => ∃ v, r = .returned v ∧ NewRow w ws.length (wdCells ws) v w' := by
  obtain ⟨i0, hi0, hz0, hz1, hz2⟩ := info_parts infoW64
  have hs := h.small
  obtain ⟨n, hn⟩ : ∃ n : Nat, n = ws.length * 8 := ⟨_, rfl⟩
  have n1 : n ≤ 65536 := by omega
  have Hn := Lib.hid hn
  have H := Lib.hid h
  have Hs := Lib.hid hs
  clear h hn hs
  go_enter Try.func27, Try.ntmps27
  go_wp2_with fail
  go_loopw [3, 4] (fun v t wr => ∃ (k o : Nat) (A : Option Addr) (c : Nat), k ≤ ws.length ∧ o = k * 8 ∧ v = .slice A k c ∧ t = .int .i64 o ∧ wr.ownsRow w.heap.size 33 1 (.slice A k c) k (wdCells (ws.take k)) ∧ Below w.heap.size w wr) (fun _ t _ => n - (intOf t).toNat)
  case atStart => exact ⟨0, 0, _, _, Nat.zero_le _, rfl, rfl, rfl, own_empty (Nat.le_refl _) (row_new _ _ _), (Below.refl _ _).alloc (Nat.le_refl _) _⟩
  case round =>
    obtain ⟨k, o, A, c, hk, ho, rfl, rfl, hown, hB⟩ := hrel
    have Hown := Lib.hid hown
    have HB := Lib.hid hB
    have HW := Lib.hid (H.out.below hB)
    have Ho := Lib.hid ho
    have Hk := Lib.hid hk
    have HL : Hid (∀ w0, Arn w0 p b ws → Calls Try.prog 54 #[.pointer (some ⟨p, 0, none⟩)] w0 fun r w' => r = .returned (.int .i64 (n : Int)) ∧ w' = w0) := Lib.hid fun w0 hA => by rw [Hn.out]; exact arnLen_any p b ws w0 hA
    clear hown hB ho hk
    by_cases hlt : k < ws.length
    · obtain ⟨x, hx⟩ : ∃ x, ws[k]? = some x := ⟨_, List.getElem?_eq_getElem hlt⟩
      have Hx := Lib.hid hx
      have HWd : Hid (∀ w0, Arn w0 p b ws → Calls Try.prog 24 #[.pointer (some ⟨p, 0, none⟩), .int .i64 (o : Int)] w0 fun r w' => r = .returned (.tuple #[.int .u64 x, .int .i64 0]) ∧ w' = w0) := Lib.hid fun w0 hA => by rw [Ho.out]; exact arnWord_any p b ws k x w0 hA Hx.out
      have hon : o < n := by have h1 := Ho.out; have h2 := Hn.out; omega
      have ho6 : (o : Int) < 65536 := by omega
      have hk2 : k ≤ 8192 := by have h2 := Hs.out; omega
      clear hx hlt
      go_wp2_with (first | (go_at_call 54; refine (HL.out _ HW.out).mono ?_; rintro r w1 ⟨rfl, rfl⟩) | (go_at_call 24; refine (HWd.out _ HW.out).mono ?_; rintro r w1 ⟨rfl, rfl⟩) | (at_builtin; refine wpList_append_any _ rfl (.tmp 24) (.tmp 26) _ (by rfl) w.heap.size 33 i0 _ 1 8 Try.underlying73 hi0 hz0 hz1 hz2 rfl (by omega) (.slice A k c) k (wdCells (ws.take k)) (by rfl) (own_below Hown.out (by go_grown)) (some ⟨w1.heap.size, 0, none⟩) 1 1 [.int .u64 x] (by rfl) rfl (cells_one (by simp [go_sem])) (wd_one x) (by simp only [maxLen]; omega) (by omega) (by simp; have := HB.out.size; omega) ?_; intro v6 w6 hown6 hg6 hat6))
      have B6 := Lib.hid (Below.grown (HB.out.alloc HB.out.size (.cells #[.int .u64 x] 33)) hg6 (by simp; have := HB.out.size; omega) (fun i hi => own_ge Hown.out i hi))
      go_roundw
      case rel =>
        obtain ⟨A6, c6, rfl, -, -, -⟩ := own_slice hown6
        exact ⟨k + 1, o + 8, A6, c6, by have h1 := Ho.out; have h2 := Hn.out; omega, by have h1 := Ho.out; omega, rfl, by go_num, by rw [wd_take Hx.out]; exact hown6, B6.out⟩
      case measure => simp [intOf]; omega
    · have hk1 : k = ws.length := by have := Hk.out; omega
      have hon : ¬ (o : Int) < (n : Int) := by have h1 := Ho.out; have h2 := Hn.out; omega
      have Hk1 := Lib.hid hk1
      clear hlt hk1
      go_wp2_with (go_at_call 54; refine (HL.out _ HW.out).mono ?_; rintro r w1 ⟨rfl, rfl⟩)
      go_ret
      exact ⟨_, rfl, newRow_of_own Hown.out Hk1.out (by rw [Hk1.out, List.take_of_length_le (Nat.le_refl _)]) (Nat.le_refl _) HB.out⟩

/-- an entry on its way, and what it saw -/
def WayT (r : Rn) (s a : Int) (ch : Sl) : Prop := r = callRn s a ch ∨ ∃ c0 c, Right c0 ∧ enter c0 a = (c, 0) ∧ r = wayR s a ch (word c0) (word c)
theorem WayT.way {r : Rn} {s a : Int} {ch : Sl} (h : WayT r s a ch) : Way r s a ch := by
  rcases h with h | ⟨c0, c, h0, h1, h2⟩
  · exact .inl h
  · exact .inr ⟨_, c, enter_right h1, h2⟩
theorem WayT.area {r : Rn} {s a : Int} {ch : Sl} (h : WayT r s a ch) : r.c.a = s ∧ r.area = a := by
  rcases h with rfl | ⟨c0, c, h0, h1, rfl⟩
  · exact ⟨rfl, rfl⟩
  · exact ⟨rfl, rfl⟩
def RunT (w : World) (F : List Nat) (r : Rn) : Prop :=
  r.done = true ∨ ∃ (s a : Int) (cA : Option Addr) (kc : Nat), (1 ≤ s ∧ s ≤ 3) ∧ (0 ≤ a ∧ a ≤ 3) ∧ Ents w cA [(a, true)] ∧ (∀ z, 0 < [(a, true)].length → cA = some z → z.block ∉ F) ∧ WayT r s a ⟨cA, 1, kc⟩
theorem RunT.below {w w' : World} {F : List Nat} {r : Rn} (h : RunT w F r) (hb : Below w.heap.size w w') : RunT w' F r := by
  rcases h with h | ⟨s, a, cA, kc, h1, h2, h3, h4, h5⟩
  · exact .inl h
  · exact .inr ⟨s, a, cA, kc, h1, h2, Ents.below h3 hb, h4, h5⟩
theorem RunT.kept {w w' : World} {F S : List Nat} {r : Rn} (h : RunT w F r) (k : Keep S w w') (hs : ∀ i ∈ S, i ∈ F) : RunT w' F r := by
  rcases h with h | ⟨s, a, cA, kc, h1, h2, h3, h4, h5⟩
  · exact .inl h
  · exact .inr ⟨s, a, cA, kc, h1, h2, ents_kept h3 k (fun z h0 hz hm => h4 z h0 hz (hs _ hm)), h4, h5⟩
def AllT (w : World) (F : List Nat) (l : List Rn) : Prop := l.length = 4 ∧ ∀ r ∈ l, RunT w F r
theorem AllT.below {w w' : World} {F : List Nat} {l : List Rn} (h : AllT w F l) (hb : Below w.heap.size w w') : AllT w' F l := ⟨h.1, fun r hr => (h.2 r hr).below hb⟩
theorem AllT.kept {w w' : World} {F S : List Nat} {l : List Rn} (h : AllT w F l) (k : Keep S w w') (hs : ∀ i ∈ S, i ∈ F) : AllT w' F l := ⟨h.1, fun r hr => (h.2 r hr).kept k hs⟩
theorem AllT.set {w : World} {F : List Nat} {l : List Rn} (h : AllT w F l) (k : Nat) {r : Rn} (hr : RunT w F r) : AllT w F (l.set k r) := by
  refine ⟨by simpa using h.1, fun x hx => ?_⟩
  rcases List.mem_or_eq_of_mem_set hx with h1 | h1
  · exact h.2 x h1
  · rw [h1]; exact hr
theorem runT_way {w : World} {F : List Nat} {r : Rn} {s a : Int} {cA : Option Addr} {kc : Nat} (hs : 1 ≤ s ∧ s ≤ 3) (ha : 0 ≤ a ∧ a ≤ 3) (he : Ents w cA [(a, true)]) (hf : ∀ z, 0 < [(a, true)].length → cA = some z → z.block ∉ F) (h : r.done = true ∨ WayT r s a ⟨cA, 1, kc⟩) : RunT w F r := by
  rcases h with h | h
  · exact .inl h
  · exact .inr ⟨s, a, cA, kc, hs, ha, he, hf, h⟩
theorem word_inj {c d : Ctl} (hc : Right c) (hd : Right d) (h : word c = word d) : c = d := by
  rw [← (right_word hc).2.2, ← (right_word hd).2.2, h]
theorem enter_let {c d : Ctl} {a : Int} (hc : Right c) (h : enter c a = (d, 0)) : (c.st = 1 ∨ (c.st = 2 ∧ c.p = a)) ∧ d = ⟨2, c.n + 1, a, c.ep⟩ := by
  unfold enter at h
  split at h
  · injection h with _ h2; omega
  split at h
  · injection h with _ h2; omega
  split at h
  · injection h with _ h2; omega
  split at h
  · rename_i h1
    injection h with h3 _
    have hn : c.n = 0 := by obtain ⟨_, _, h⟩ := hc; omega
    exact ⟨.inl h1, by rw [← h3, hn]; rfl⟩
  split at h
  · injection h with _ h2; omega
  split at h
  · injection h with _ h2; omega
  · rename_i h0 h1 h2 h3 h4 h5
    injection h with h6 _
    have hst : c.st = 2 := by obtain ⟨_, _, h⟩ := hc; omega
    have hp : c.p = a := by omega
    exact ⟨.inr ⟨hst, hp⟩, by rw [← h6, hst, hp]⟩
/-- what a step makes of an entry: it goes on; or is refused; or is let in -/
def OutT (c : Ctl) (r : Rn) (s a : Int) (ch : Sl) : Prop :=
  ((stepR c r).done = false ∧ stepX c r = word c ∧ WayT (stepR c r) s a ch)
  ∨ ((stepR c r).done = true ∧ (stepR c r).code = (enter c a).2 ∧ (enter c a).2 ≠ 0 ∧ (enter c a).2 ≠ 10 ∧ stepX c r = word c)
  ∨ ((stepR c r).done = true ∧ (stepR c r).code = 0 ∧ (c.st = 1 ∨ (c.st = 2 ∧ c.p = a)) ∧ Right ⟨2, c.n + 1, a, c.ep⟩ ∧ stepX c r = word ⟨2, c.n + 1, a, c.ep⟩)
theorem way_out {r : Rn} {s a : Int} {ch : Sl} {c : Ctl} (h : WayT r s a ch) (hc : Right c) : OutT c r s a ch := by
  rcases h with rfl | ⟨c0, c', hc0, he, rfl⟩
  · have hx : stepX c (callRn s a ch) = word c := stepX_13 rfl
    have hr : stepR c (callRn s a ch) = lookN c s a ch := rfl
    unfold OutT
    rw [hx, hr]
    unfold lookN
    by_cases h10 : (enter c a).2 = 10
    · rw [if_pos h10]
      exact .inl ⟨rfl, rfl, .inl rfl⟩
    · rw [if_neg h10]
      by_cases h0 : (enter c a).2 = 0
      · rw [if_pos h0]
        exact .inl ⟨rfl, rfl, .inr ⟨c, (enter c a).1, hc, by rw [← h0], rfl⟩⟩
      · rw [if_neg h0]
        exact .inr (.inl ⟨rfl, rfl, h0, h10, rfl⟩)
  · have hr : stepR c (wayR s a ch (word c0) (word c')) = enterN (word c) s a ch (word c0) (word c') := rfl
    have hx : stepX c (wayR s a ch (word c0) (word c')) = if word c = word c0 then word c' else word c := by
      unfold stepX
      by_cases e : word c = word c0
      · rw [if_pos ⟨rfl, e⟩, if_pos e]; rfl
      · rw [if_neg (fun g => e g.2), if_neg e]
    unfold OutT
    rw [hx, hr]
    unfold enterN
    by_cases e : word c = word c0
    · rw [if_pos e, if_pos e]
      have ec := word_inj hc hc0 e
      subst ec
      obtain ⟨h1, h2⟩ := enter_let hc he
      exact .inr (.inr ⟨rfl, rfl, h1, by rw [← h2]; exact enter_right he, by rw [h2]⟩)
    · rw [if_neg e, if_neg e]
      exact .inl ⟨rfl, rfl, .inl rfl⟩
theorem words40_any (p b : Nat) (ws : List Int) (w : World) (h : Arn w p b ws) (hl : ws.length = 40) :
    Calls Try.prog 27 #[.pointer (some ⟨p, 0, none⟩)] w fun r w' => ∃ b1 o1 c1, r = .returned (.slice (some ⟨b1, o1, none⟩) 40 c1) ∧ (∀ (n : Nat) x, ws[n]? = some x → w'.cell? ⟨b1, o1 + n, none⟩ = some (.int .u64 x)) ∧ w.heap.size ≤ b1 ∧ Below w.heap.size w w' := by
  refine (words_any p b ws w h).mono ?_
  rintro r w' ⟨v, rfl, A, c, rfl, hc, hcs, hn, hb⟩
  obtain ⟨b1, o1, rfl, h1⟩ := hcs (by rw [wd_len]; omega)
  exact ⟨b1, o1, c, by rw [hl], fun n x hx => h1 n _ (by simp [hx]), hn _ rfl, hb⟩

end Go.Proofs.Ytconieenkeajiaa
