/- The walks of scopes' at, Ctl, Extent, Free, change, Enter, Leave, Open, Hold. (Printed by gen_sc.py.) -/
import Derived.Test.YtcicpfhbpcdjcaaScA
namespace Go.Proofs.Ytcicpfhbpcdjcaa
open Go.RowKit

theorem inS_yes {i lo : Int} {S : Sco} (h : inS i lo S = true) (h0 : 0 ≤ lo) : ∃ k s, i = ((k : Nat) : Int) ∧ k < S.l.length ∧ S.l[k]? = some s := by
  simp only [inS, inB, decide_eq_true_eq] at h
  have hk : i.toNat < S.l.length := by omega
  exact ⟨i.toNat, S.l[i.toNat], by omega, hk, List.getElem?_eq_getElem hk⟩

set_option maxHeartbeats 400000 in
theorem at_no (B p b g : Nat) (q : Option Nat) (f e : Int) (S : Sco) (i lo : Int) (w : World) (h : Scs B w p b g q f e S) (hin : inS i lo S = false) :
    Calls Try.prog 46 #[.pointer (some ⟨p, 0, none⟩), .int .i64 i, .int .i64 lo] w fun r w' => r = .returned (.pointer none) ∧ w' = w := by
  obtain ⟨h0, _⟩ := box2 h.hd
  have hn := h.n8
  have Hin := Lib.hid (show inB i lo ((S.l.length : Int) - 1) = false from hin)
  clear h hin
  go_enter Try.func46, Try.ntmps46
  go_wp2_with (go_at_call 41; refine (within_any _ _ _ _).mono ?_; rintro r w1 ⟨rfl, rfl⟩; rw [Hin.out])
  go_ret
  exact ⟨rfl, rfl⟩
set_option maxHeartbeats 400000 in
theorem at_yes (B p b g : Nat) (q : Option Nat) (f e : Int) (S : Sco) (k : Nat) (lo : Int) (w : World) (h : Scs B w p b g q f e S) (hin : inS k lo S = true) (hk : k < S.l.length) :
    Calls Try.prog 46 #[.pointer (some ⟨p, 0, none⟩), .int .i64 k, .int .i64 lo] w fun r w' => r = .returned (.pointer (some ⟨b, k * 6, none⟩)) ∧ w' = w := by
  obtain ⟨h0, _⟩ := box2 h.hd
  have hn := h.n8
  have Hin := Lib.hid (show inB k lo ((S.l.length : Int) - 1) = true from hin)
  clear h hin
  go_enter Try.func46, Try.ntmps46
  go_wp2_with (go_at_call 41; refine (within_any _ _ _ _).mono ?_; rintro r w1 ⟨rfl, rfl⟩; rw [Hin.out])
  go_ret
  exact ⟨rfl, rfl⟩


set_option maxHeartbeats 400000 in
theorem ctl_any (B p b g : Nat) (q : Option Nat) (f e : Int) (S : Sco) (i : Int) (w : World) (h : Scs B w p b g q f e S) :
    Calls Try.prog 17 #[.pointer (some ⟨p, 0, none⟩), .int .i64 i] w fun r w' => r = .returned (.tuple #[(ctlS i S).1.val, .int .i64 (ctlS i S).2]) ∧ Below w.heap.size w w' := by
  have hB : Below w.heap.size w (w.alloc (.cells #[.int .i64 0, .int .i64 0, .int .i64 0, .int .i64 0] 43)) := by go_grown
  have h1 := h.below hB
  have R := Lib.hid (row_new w #[.int .i64 0, .int .i64 0, .int .i64 0, .int .i64 0] 43)
  obtain ⟨r0, r1, r2, r3, f0, f1, f2, f3⟩ := box4 R.out
  cases hin : inS i 0 S with
  | false =>
    have HA := Lib.hid (at_no B p b g q f e S i 0 _ h1 hin)
    rw [show ctlS i S = (noCtl, 11) by unfold ctlS; rw [if_pos hin]]
    clear h h1 hin hB
    go_enter Try.func17, Try.ntmps17
    go_wp2_with (go_at_call 46; refine HA.out.mono ?_; rintro r w1 ⟨rfl, rfl⟩)
    refine bodyPost_ret (by simp [results, Try.results17, go_sem, r0, r1, r2, r3]; rfl) rfl ?_
    exact ⟨rfl, by go_grown⟩
  | true =>
    obtain ⟨k, s, rfl, hk, hs⟩ := inS_yes hin (by omega)
    have HA := Lib.hid (at_yes B p b g q f e S k 0 _ h1 hin hk)
    have hb := h.lt.2.1
    rw [show ctlS k S = (s.c, 0) by unfold ctlS; rw [if_neg (by rw [hin]; simp), Int.toNat_natCast, hs]]
    obtain ⟨q0, q1, q2, q3, q4, q5⟩ := scs_cells h1.row hs
    clear h h1 hin hB hs
    go_enter Try.func17, Try.ntmps17
    go_wp2_with (go_at_call 46; refine HA.out.mono ?_; rintro r w1 ⟨rfl, rfl⟩)
    go_returns
    exact ⟨rfl, by go_grown⟩


set_option maxHeartbeats 400000 in
theorem ext_any (B p b g : Nat) (q : Option Nat) (f e : Int) (S : Sco) (i : Int) (w : World) (h : Scs B w p b g q f e S) :
    Calls Try.prog 16 #[.pointer (some ⟨p, 0, none⟩), .int .i64 i] w fun r w' => r = .returned (.tuple #[.agg #[.int .i64 (extS i S).1.1, .int .i64 (extS i S).1.2], .int .i64 (extS i S).2]) ∧ Below w.heap.size w w' := by
  have hB : Below w.heap.size w (w.alloc (.cells #[.int .i64 0, .int .i64 0] 32)) := by go_grown
  have h1 := h.below hB
  have R := Lib.hid (row_new w #[.int .i64 0, .int .i64 0] 32)
  obtain ⟨r0, r1, f0, f1⟩ := box2 R.out
  cases hin : inS i 0 S with
  | false =>
    have HA := Lib.hid (at_no B p b g q f e S i 0 _ h1 hin)
    rw [show extS i S = ((0, 0), 11) by unfold extS; rw [if_pos hin]]
    clear h h1 hin hB
    go_enter Try.func16, Try.ntmps16
    go_wp2_with (go_at_call 46; refine HA.out.mono ?_; rintro r w1 ⟨rfl, rfl⟩)
    refine bodyPost_ret (by simp [results, Try.results16, go_sem, r0, r1]; rfl) rfl ?_
    exact ⟨rfl, by go_grown⟩
  | true =>
    obtain ⟨k, s, rfl, hk, hs⟩ := inS_yes hin (by omega)
    have HA := Lib.hid (at_yes B p b g q f e S k 0 _ h1 hin hk)
    have hb := h.lt.2.1
    rw [show extS k S = (s.x, 0) by unfold extS; rw [if_neg (by rw [hin]; simp), Int.toNat_natCast, hs]]
    obtain ⟨q0, q1, q2, q3, q4, q5⟩ := scs_cells h1.row hs
    clear h h1 hin hB hs
    go_enter Try.func16, Try.ntmps16
    go_wp2_with (go_at_call 46; refine HA.out.mono ?_; rintro r w1 ⟨rfl, rfl⟩)
    go_returns
    exact ⟨rfl, by go_grown⟩


set_option maxHeartbeats 400000 in
theorem sfree_any (B p b g : Nat) (q : Option Nat) (f e : Int) (S : Sco) (w : World) (h : Scs B w p b g q f e S) :
    Calls Try.prog 18 #[.pointer (some ⟨p, 0, none⟩)] w fun r w' => ∃ v, r = .returned v ∧ NewExts w S.F v w' := by
  obtain ⟨_, h1, _⟩ := box2 h.hd
  have HA := Lib.hid (free_any B g f e S.F q _ h.gr)
  clear h
  go_enter Try.func18, Try.ntmps18
  go_wp2_with (go_at_call 48; refine HA.out.mono ?_; rintro r w1 ⟨v, rfl, hv⟩)
  go_ret
  exact ⟨_, rfl, hv⟩

/-- the control words of a scope are stored -/
theorem scs_four {w : World} {b : Nat} {l : List Sc} (h : w.heap[b]? = some (.cells (l.flatMap scCells).toArray 72 (0, 0))) {k : Nat} {s : Sc} (hs : l[k]? = some s) (c : Ctl) :
    ((((w.setCell ⟨b, k * 6, none⟩ (.int .i64 c.st)).setCell ⟨b, k * 6 + 1, none⟩ (.int .i64 c.n)).setCell ⟨b, k * 6 + 2, none⟩ (.int .i64 c.p)).setCell ⟨b, k * 6 + 3, none⟩ (.int .i64 c.ep)).heap[b]? = some (.cells ((l.set k ⟨c, s.x⟩).flatMap scCells).toArray 72 (0, 0)) := by
  have hk := (List.getElem?_eq_some_iff.1 hs).1
  have get : ∀ t : Sc, (l.set k t)[k]? = some t := fun t => by rw [List.getElem?_set]; simp [hk]
  have h1 := scs_store h hs 0 (by omega) (.int .i64 c.st) ⟨⟨c.st, s.c.n, s.c.p, s.c.ep⟩, s.x⟩ rfl
  have h2 := scs_store h1 (get _) 1 (by omega) (.int .i64 c.n) ⟨⟨c.st, c.n, s.c.p, s.c.ep⟩, s.x⟩ rfl
  rw [List.set_set] at h2
  have h3 := scs_store h2 (get _) 2 (by omega) (.int .i64 c.p) ⟨⟨c.st, c.n, c.p, s.c.ep⟩, s.x⟩ rfl
  rw [List.set_set] at h3
  have h4 := scs_store h3 (get _) 3 (by omega) (.int .i64 c.ep) ⟨⟨c.st, c.n, c.p, c.ep⟩, s.x⟩ rfl
  rw [List.set_set] at h4
  exact h4
theorem Keep.four {T : List Nat} {w w' : World} (h : Keep T w w') {b : Nat} (hb : b ∈ T) (i j m n : Nat) (u v x y : Value) : Keep T w ((((w'.setCell ⟨b, i, none⟩ u).setCell ⟨b, j, none⟩ v).setCell ⟨b, m, none⟩ x).setCell ⟨b, n, none⟩ y) :=
  (((h.setCell (.inl hb) u).setCell (.inl hb) v).setCell (.inl hb) x).setCell (.inl hb) y
/-- another row's scopes -/
theorem Scs.other {B p b g : Nat} {q : Option Nat} {f e : Int} {S : Sco} {w w' : World} (h : Scs B w p b g q f e S) (k : Keep [b] w w') (l : List Sc) (hl : l.length = S.l.length) (hr : w'.heap[b]? = some (.cells (l.flatMap scCells).toArray 72 (0, 0))) (ho : ∀ s ∈ l, ScOk s) :
    Scs B w' p b g q f e ⟨l, S.F⟩ :=
  { h with
    hd := by
      have := k.row h.hd (by simpa using h.ne1.symm)
      rw [← hl] at this
      exact this
    row := hr
    gr := h.gr.kept k (by simpa using h.ne3) (fun i hi => by simp; rintro rfl; exact h.ne5 hi)
    n1 := by rw [hl]; exact h.n1
    n8 := by rw [hl]; exact h.n8
    ok := ho }


set_option maxHeartbeats 1000000 in
theorem enter1_any (s n p e : Int) (x : Nat) (m : Int) (w : World) (hx : w.cell? ⟨x, 0, none⟩ = some (.int .i64 m)) :
    Calls Try.prog 50 #[.agg #[.int .i64 s, .int .i64 n, .int .i64 p, .int .i64 e], .pointer (some ⟨x, 0, none⟩)] w fun r w' => r = .returned (.tuple #[(enter ⟨s, n, p, e⟩ m).1.val, .int .i64 (enter ⟨s, n, p, e⟩ m).2]) ∧ Below w.heap.size w w' := by
  have hlt := lt_of_cell hx
  obtain ⟨s', n', p', e', z, HZ⟩ : ∃ s' n' p' e' z, Hid (enter ⟨s, n, p, e⟩ m = (⟨s', n', p', e'⟩, z)) := ⟨(enter ⟨s, n, p, e⟩ m).1.st, _, _, _, _, rfl⟩
  have HE := Lib.hid (fun W => enter_any s n p e m W)
  have R2 := Lib.hid (show ((w.alloc (.cells #[.int .i64 s, .int .i64 n, .int .i64 p, .int .i64 e] 43)).alloc (.cells #[.int .i64 0, .int .i64 0, .int .i64 0, .int .i64 0] 43)).heap[w.heap.size + 1]? = some (.cells #[.int .i64 0, .int .i64 0, .int .i64 0, .int .i64 0] 43) from heap_at (by simp))
  have B0 : Below w.heap.size w ((w.alloc (.cells #[.int .i64 s, .int .i64 n, .int .i64 p, .int .i64 e] 43)).alloc (.cells #[.int .i64 0, .int .i64 0, .int .i64 0, .int .i64 0] 43)) := by go_grown
  rw [HZ.out]
  go_enter Try.func50, Try.ntmps50
  go_wp2_with (go_at_call 51; refine (HE.out _).mono ?_; rintro r w1 ⟨rfl, hb⟩; rw [HZ.out]; have B1 := below_only B0 hb; have RR := row_below R2.out hb; obtain ⟨q0, q1, q2, q3, g0, g1, g2, g3⟩ := box4 RR; clear RR)
  refine bodyPost_ret (by simp [results, Try.results50, go_sem, q0, q1, q2, q3]; rfl) rfl ?_
  exact ⟨rfl, by go_grown⟩


set_option maxHeartbeats 1000000 in
theorem changeEnter_any (B p b g : Nat) (q : Option Nat) (f e : Int) (S : Sco) (i : Int) (x : Nat) (m : Int) (w : World) (h : Scs B w p b g q f e S) (hx : w.cell? ⟨x, 0, none⟩ = some (.int .i64 m)) :
    Calls Try.prog 49 #[.pointer (some ⟨p, 0, none⟩), .int .i64 i, .func (.func 50) #[] #[.pointer (some ⟨x, 0, none⟩)]] w fun r w' => r = .returned (.int .i64 (changeS (fun c => enter c m) i S).1) ∧ Scs B w' p b g q f e (changeS (fun c => enter c m) i S).2 ∧ Keep [b] w w' := by
  cases hin : inS i 1 S with
  | false =>
    have HA := Lib.hid (at_no B p b g q f e S i 1 _ h hin)
    have HH := Lib.hid h
    rw [show changeS (fun c => enter c m) i S = (11, S) by unfold changeS; rw [if_pos hin]]
    clear h hin
    go_enter Try.func49, Try.ntmps49
    go_wp2_with (go_at_call 46; refine HA.out.mono ?_; rintro r w1 ⟨rfl, rfl⟩)
    go_ret
    exact ⟨rfl, HH.out, Keep.refl _ _⟩
  | true =>
    obtain ⟨k, ⟨⟨s, n, p0, e0⟩, x0⟩, rfl, hk, hs⟩ := inS_yes hin (by omega)
    have HA := Lib.hid (at_yes B p b g q f e S k 1 _ h hin hk)
    obtain ⟨s', n', p', e', z, HZ⟩ : ∃ s' n' p' e' z, Hid (enter ⟨s, n, p0, e0⟩ m = (⟨s', n', p', e'⟩, z)) := ⟨(enter ⟨s, n, p0, e0⟩ m).1.st, _, _, _, _, rfl⟩
    have hc : changeS (fun c => enter c m) k S = if z = 0 then (0, ⟨S.l.set k ⟨⟨s', n', p', e'⟩, x0⟩, S.F⟩) else (z, S) := by
      unfold changeS; rw [if_neg (by rw [hin]; simp), Int.toNat_natCast, hs]; simp only [HZ.out]
    have hr : z = 0 → Right ⟨s', n', p', e'⟩ := fun hz => by
      have := enter_right (c := ⟨s, n, p0, e0⟩) (k := m)
      rw [HZ.out] at this
      exact this hz
    have HE := Lib.hid (fun W => enter1_any s n p0 e0 x m W)
    obtain ⟨q0, q1, q2, q3, _, _⟩ := scs_cells h.row hs
    dsimp only at q0 q1 q2 q3
    have hb := h.lt.2.1
    have HH := Lib.hid h
    have Hs := Lib.hid hs
    rw [hc]
    clear hc h hin hs
    by_cases hz : z = 0
    · have Hr := Lib.hid (hr hz)
      rw [if_pos hz]
      subst hz
      clear hr
      go_enter Try.func49, Try.ntmps49
      go_wp2_with (first
        | (go_at_call 46; refine HA.out.mono ?_; rintro r w1 ⟨rfl, rfl⟩)
        | (go_at_call 50; refine (HE.out _ hx).mono ?_; rintro r w1 ⟨rfl, hb1⟩; rw [HZ.out]; have R1 := Lib.hid (row_below HH.out.row hb1); have f0 := row_frozen R1.out (k * 6); have f1 := row_frozen R1.out (k * 6 + 1); have f2 := row_frozen R1.out (k * 6 + 2); have f3 := row_frozen R1.out (k * 6 + 3); obtain ⟨q0', q1', q2', q3', _, _⟩ := scs_cells R1.out Hs.out; clear q0 q1 q2 q3; dsimp only at q0' q1' q2' q3'; have hb1' := lt_of_heap R1.out))
      go_ret
      have K := ((keep_below hb1 [b]).four (b := b) (by simp) (k * 6) (k * 6 + 1) (k * 6 + 2) (k * 6 + 3) (.int .i64 s') (.int .i64 n') (.int .i64 p') (.int .i64 e')).alloc (.cells #[.int .i64 s', .int .i64 n', .int .i64 p', .int .i64 e'] 43)
      exact ⟨rfl, HH.out.other K _ (List.length_set ..) (row_alloc (scs_four R1.out Hs.out ⟨s', n', p', e'⟩)) (fun t ht => (mem_set_or ht).elim (fun e => by subst e; exact ⟨Hr.out, (HH.out.ok _ (List.mem_of_getElem? Hs.out)).x0, (HH.out.ok _ (List.mem_of_getElem? Hs.out)).x1⟩) (HH.out.ok t)), K⟩
    · have hz' : (z == 0) = false := by simpa using hz
      rw [if_neg hz]
      clear hr hz
      go_enter Try.func49, Try.ntmps49
      go_wp2_with (first
        | (go_at_call 46; refine HA.out.mono ?_; rintro r w1 ⟨rfl, rfl⟩)
        | (go_at_call 50; refine (HE.out _ hx).mono ?_; rintro r w1 ⟨rfl, hb1⟩; rw [HZ.out]; clear q0 q1 q2 q3))
      go_ret
      have B1 := below_only hb1 (show Below w1.heap.size w1 (w1.alloc (.cells #[.int .i64 s', .int .i64 n', .int .i64 p', .int .i64 e'] 43)) by go_grown)
      exact ⟨rfl, HH.out.below B1, keep_below B1 _⟩


set_option maxHeartbeats 400000 in
theorem senter_any (B p b g : Nat) (q : Option Nat) (f e : Int) (S : Sco) (i m : Int) (w : World) (h : Scs B w p b g q f e S) :
    Calls Try.prog 19 #[.pointer (some ⟨p, 0, none⟩), .int .i64 i, .int .i64 m] w fun r w' => r = .returned (.int .i64 (enterS i m S).1) ∧ Scs B w' p b g q f e (enterS i m S).2 ∧ Keep [b] w w' := by
  have hB : Below w.heap.size w (w.alloc (.cells #[.int .i64 m] 3)) := by go_grown
  have HA := Lib.hid (changeEnter_any B p b g q f e S i w.heap.size m _ (h.below hB) (box1 (row_new _ _ _)).1)
  have HK := Lib.hid (keep_below hB [b])
  clear h hB
  go_enter Try.func19, Try.ntmps19
  go_wp2_with (go_at_call 49; refine HA.out.mono ?_; rintro r w1 ⟨rfl, h1, k1⟩)
  go_ret
  exact ⟨rfl, h1, HK.out.trans k1⟩


set_option maxHeartbeats 1000000 in
theorem changeLeave_any (B p b g : Nat) (q : Option Nat) (f e : Int) (S : Sco) (i : Int) (w : World) (h : Scs B w p b g q f e S) :
    Calls Try.prog 49 #[.pointer (some ⟨p, 0, none⟩), .int .i64 i, .func (.func 52) #[] #[]] w fun r w' => r = .returned (.int .i64 (changeS leave i S).1) ∧ Scs B w' p b g q f e (changeS leave i S).2 ∧ Keep [b] w w' := by
  cases hin : inS i 1 S with
  | false =>
    have HA := Lib.hid (at_no B p b g q f e S i 1 _ h hin)
    have HH := Lib.hid h
    rw [show changeS leave i S = (11, S) by unfold changeS; rw [if_pos hin]]
    clear h hin
    go_enter Try.func49, Try.ntmps49
    go_wp2_with (go_at_call 46; refine HA.out.mono ?_; rintro r w1 ⟨rfl, rfl⟩)
    go_ret
    exact ⟨rfl, HH.out, Keep.refl _ _⟩
  | true =>
    obtain ⟨k, ⟨⟨s, n, p0, e0⟩, x0⟩, rfl, hk, hs⟩ := inS_yes hin (by omega)
    have HA := Lib.hid (at_yes B p b g q f e S k 1 _ h hin hk)
    obtain ⟨s', n', p', e', z, HZ⟩ : ∃ s' n' p' e' z, Hid (leave ⟨s, n, p0, e0⟩ = (⟨s', n', p', e'⟩, z)) := ⟨(leave ⟨s, n, p0, e0⟩).1.st, _, _, _, _, rfl⟩
    have hc : changeS leave k S = if z = 0 then (0, ⟨S.l.set k ⟨⟨s', n', p', e'⟩, x0⟩, S.F⟩) else (z, S) := by
      unfold changeS; rw [if_neg (by rw [hin]; simp), Int.toNat_natCast, hs]; simp only [HZ.out]
    have hr : z = 0 → Right ⟨s', n', p', e'⟩ := fun hz => by
      have := leave_right (c := ⟨s, n, p0, e0⟩)
      rw [HZ.out] at this
      exact this hz
    have HE := Lib.hid (fun W => leave_any s n p0 e0 W)
    obtain ⟨q0, q1, q2, q3, _, _⟩ := scs_cells h.row hs
    dsimp only at q0 q1 q2 q3
    have hb := h.lt.2.1
    have HH := Lib.hid h
    have Hs := Lib.hid hs
    rw [hc]
    clear hc h hin hs
    by_cases hz : z = 0
    · have Hr := Lib.hid (hr hz)
      rw [if_pos hz]
      subst hz
      clear hr
      go_enter Try.func49, Try.ntmps49
      go_wp2_with (first
        | (go_at_call 46; refine HA.out.mono ?_; rintro r w1 ⟨rfl, rfl⟩)
        | (go_at_call 52; refine (HE.out _).mono ?_; rintro r w1 ⟨rfl, hb1⟩; rw [HZ.out]; have R1 := Lib.hid (row_below HH.out.row hb1); have f0 := row_frozen R1.out (k * 6); have f1 := row_frozen R1.out (k * 6 + 1); have f2 := row_frozen R1.out (k * 6 + 2); have f3 := row_frozen R1.out (k * 6 + 3); obtain ⟨q0', q1', q2', q3', _, _⟩ := scs_cells R1.out Hs.out; clear q0 q1 q2 q3; dsimp only at q0' q1' q2' q3'; have hb1' := lt_of_heap R1.out))
      go_ret
      have K := ((keep_below hb1 [b]).four (b := b) (by simp) (k * 6) (k * 6 + 1) (k * 6 + 2) (k * 6 + 3) (.int .i64 s') (.int .i64 n') (.int .i64 p') (.int .i64 e')).alloc (.cells #[.int .i64 s', .int .i64 n', .int .i64 p', .int .i64 e'] 43)
      exact ⟨rfl, HH.out.other K _ (List.length_set ..) (row_alloc (scs_four R1.out Hs.out ⟨s', n', p', e'⟩)) (fun t ht => (mem_set_or ht).elim (fun e => by subst e; exact ⟨Hr.out, (HH.out.ok _ (List.mem_of_getElem? Hs.out)).x0, (HH.out.ok _ (List.mem_of_getElem? Hs.out)).x1⟩) (HH.out.ok t)), K⟩
    · have hz' : (z == 0) = false := by simpa using hz
      rw [if_neg hz]
      clear hr hz
      go_enter Try.func49, Try.ntmps49
      go_wp2_with (first
        | (go_at_call 46; refine HA.out.mono ?_; rintro r w1 ⟨rfl, rfl⟩)
        | (go_at_call 52; refine (HE.out _).mono ?_; rintro r w1 ⟨rfl, hb1⟩; rw [HZ.out]; clear q0 q1 q2 q3))
      go_ret
      have B1 := below_only hb1 (show Below w1.heap.size w1 (w1.alloc (.cells #[.int .i64 s', .int .i64 n', .int .i64 p', .int .i64 e'] 43)) by go_grown)
      exact ⟨rfl, HH.out.below B1, keep_below B1 _⟩


set_option maxHeartbeats 400000 in
theorem sleave_any (B p b g : Nat) (q : Option Nat) (f e : Int) (S : Sco) (i : Int) (w : World) (h : Scs B w p b g q f e S) :
    Calls Try.prog 20 #[.pointer (some ⟨p, 0, none⟩), .int .i64 i] w fun r w' => r = .returned (.tuple #[.bool (lastS i S), .int .i64 (leaveS i S).1]) ∧ Scs B w' p b g q f e (leaveS i S).2 ∧ Keep [b] w w' := by
  have HA := Lib.hid (changeLeave_any B p b g q f e S i w h)
  by_cases hz : (leaveS i S).1 = 0
  · have hl : (leaveS i S).2.l.length = S.l.length := changeS_len _ _ _
    have hin : inS i 1 S = true := by
      cases hin : inS i 1 S with
      | true => rfl
      | false => unfold leaveS changeS at hz; rw [if_pos hin] at hz; cases hz
    obtain ⟨k, s0, rfl, hk, hs0⟩ := inS_yes hin (by omega)
    obtain ⟨s, hs⟩ : ∃ s, (leaveS k S).2.l[k]? = some s := ⟨_, List.getElem?_eq_getElem (by rw [hl]; exact hk)⟩
    have HL := Lib.hid (show lastS k S = (s.c.st == 3) by unfold lastS; rw [if_pos hz, Int.toNat_natCast, hs])
    have Hz := Lib.hid hz
    have Hs := Lib.hid hs
    have HH := Lib.hid h
    have hn8 := h.n8
    have hlt : (k : Int) < (S.l.length : Int) := by omega
    have Hl := Lib.hid hl
    clear h hs hz hs0 hin hl
    rw [HL.out, Hz.out]
    go_enter Try.func20, Try.ntmps20
    go_wp2_with (go_at_call 49; refine HA.out.mono ?_; rintro r w1 ⟨rfl, h1, k1⟩; rw [show (changeS leave k S).1 = 0 from Hz.out]; have H1 := Lib.hid h1; have K1 := Lib.hid k1; obtain ⟨b0, _⟩ := box2 h1.hd; rw [show (changeS leave k S).2.l.length = S.l.length from Hl.out] at b0; obtain ⟨q0, _⟩ := scs_cells h1.row Hs.out; clear h1 k1)
    go_ret2
    exact ⟨rfl, H1.out, K1.out⟩
  · have HL := Lib.hid (show lastS i S = false by unfold lastS; rw [if_neg hz])
    have hz' : ((leaveS i S).1 != 0) = true := by simpa using hz
    obtain ⟨z, HZ⟩ : ∃ z, Hid ((leaveS i S).1 = z) := ⟨_, rfl⟩
    rw [HZ.out] at hz'
    rw [HL.out, HZ.out]
    clear h hz
    go_enter Try.func20, Try.ntmps20
    go_wp2_with (go_at_call 49; refine HA.out.mono ?_; rintro r w1 ⟨rfl, h1, k1⟩; rw [show (changeS leave i S).1 = z from HZ.out])
    go_ret2
    exact ⟨rfl, h1, k1⟩


set_option maxHeartbeats 1000000 in
theorem changeOpen_any (B p b g : Nat) (q : Option Nat) (f e : Int) (S : Sco) (i : Int) (w : World) (h : Scs B w p b g q f e S) :
    Calls Try.prog 49 #[.pointer (some ⟨p, 0, none⟩), .int .i64 i, .func (.func 53) #[] #[]] w fun r w' => r = .returned (.int .i64 (changeS openC i S).1) ∧ Scs B w' p b g q f e (changeS openC i S).2 ∧ Keep [b] w w' := by
  cases hin : inS i 1 S with
  | false =>
    have HA := Lib.hid (at_no B p b g q f e S i 1 _ h hin)
    have HH := Lib.hid h
    rw [show changeS openC i S = (11, S) by unfold changeS; rw [if_pos hin]]
    clear h hin
    go_enter Try.func49, Try.ntmps49
    go_wp2_with (go_at_call 46; refine HA.out.mono ?_; rintro r w1 ⟨rfl, rfl⟩)
    go_ret
    exact ⟨rfl, HH.out, Keep.refl _ _⟩
  | true =>
    obtain ⟨k, ⟨⟨s, n, p0, e0⟩, x0⟩, rfl, hk, hs⟩ := inS_yes hin (by omega)
    have HA := Lib.hid (at_yes B p b g q f e S k 1 _ h hin hk)
    obtain ⟨s', n', p', e', z, HZ⟩ : ∃ s' n' p' e' z, Hid (openC ⟨s, n, p0, e0⟩ = (⟨s', n', p', e'⟩, z)) := ⟨(openC ⟨s, n, p0, e0⟩).1.st, _, _, _, _, rfl⟩
    have hc : changeS openC k S = if z = 0 then (0, ⟨S.l.set k ⟨⟨s', n', p', e'⟩, x0⟩, S.F⟩) else (z, S) := by
      unfold changeS; rw [if_neg (by rw [hin]; simp), Int.toNat_natCast, hs]; simp only [HZ.out]
    have hr : z = 0 → Right ⟨s', n', p', e'⟩ := fun hz => by
      have := open_right (c := ⟨s, n, p0, e0⟩)
      rw [HZ.out] at this
      exact this hz
    have HE := Lib.hid (fun W => open_any s n p0 e0 W)
    obtain ⟨q0, q1, q2, q3, _, _⟩ := scs_cells h.row hs
    dsimp only at q0 q1 q2 q3
    have hb := h.lt.2.1
    have HH := Lib.hid h
    have Hs := Lib.hid hs
    rw [hc]
    clear hc h hin hs
    by_cases hz : z = 0
    · have Hr := Lib.hid (hr hz)
      rw [if_pos hz]
      subst hz
      clear hr
      go_enter Try.func49, Try.ntmps49
      go_wp2_with (first
        | (go_at_call 46; refine HA.out.mono ?_; rintro r w1 ⟨rfl, rfl⟩)
        | (go_at_call 53; refine (HE.out _).mono ?_; rintro r w1 ⟨rfl, hb1⟩; rw [HZ.out]; have R1 := Lib.hid (row_below HH.out.row hb1); have f0 := row_frozen R1.out (k * 6); have f1 := row_frozen R1.out (k * 6 + 1); have f2 := row_frozen R1.out (k * 6 + 2); have f3 := row_frozen R1.out (k * 6 + 3); obtain ⟨q0', q1', q2', q3', _, _⟩ := scs_cells R1.out Hs.out; clear q0 q1 q2 q3; dsimp only at q0' q1' q2' q3'; have hb1' := lt_of_heap R1.out))
      go_ret
      have K := ((keep_below hb1 [b]).four (b := b) (by simp) (k * 6) (k * 6 + 1) (k * 6 + 2) (k * 6 + 3) (.int .i64 s') (.int .i64 n') (.int .i64 p') (.int .i64 e')).alloc (.cells #[.int .i64 s', .int .i64 n', .int .i64 p', .int .i64 e'] 43)
      exact ⟨rfl, HH.out.other K _ (List.length_set ..) (row_alloc (scs_four R1.out Hs.out ⟨s', n', p', e'⟩)) (fun t ht => (mem_set_or ht).elim (fun e => by subst e; exact ⟨Hr.out, (HH.out.ok _ (List.mem_of_getElem? Hs.out)).x0, (HH.out.ok _ (List.mem_of_getElem? Hs.out)).x1⟩) (HH.out.ok t)), K⟩
    · have hz' : (z == 0) = false := by simpa using hz
      rw [if_neg hz]
      clear hr hz
      go_enter Try.func49, Try.ntmps49
      go_wp2_with (first
        | (go_at_call 46; refine HA.out.mono ?_; rintro r w1 ⟨rfl, rfl⟩)
        | (go_at_call 53; refine (HE.out _).mono ?_; rintro r w1 ⟨rfl, hb1⟩; rw [HZ.out]; clear q0 q1 q2 q3))
      go_ret
      have B1 := below_only hb1 (show Below w1.heap.size w1 (w1.alloc (.cells #[.int .i64 s', .int .i64 n', .int .i64 p', .int .i64 e'] 43)) by go_grown)
      exact ⟨rfl, HH.out.below B1, keep_below B1 _⟩


set_option maxHeartbeats 400000 in
theorem sopen_any (B p b g : Nat) (q : Option Nat) (f e : Int) (S : Sco) (i : Int) (w : World) (h : Scs B w p b g q f e S) :
    Calls Try.prog 21 #[.pointer (some ⟨p, 0, none⟩), .int .i64 i] w fun r w' => r = .returned (.int .i64 (openS i S).1) ∧ Scs B w' p b g q f e (openS i S).2 ∧ Keep [b] w w' := by
  have HA := Lib.hid (changeOpen_any B p b g q f e S i w h)
  clear h
  go_enter Try.func21, Try.ntmps21
  go_wp2_with (go_at_call 49; refine HA.out.mono ?_; rintro r w1 ⟨rfl, h1, k1⟩)
  go_ret
  exact ⟨rfl, h1, k1⟩


set_option maxHeartbeats 1000000 in
theorem changeHold_any (B p b g : Nat) (q : Option Nat) (f e : Int) (S : Sco) (i : Int) (w : World) (h : Scs B w p b g q f e S) :
    Calls Try.prog 49 #[.pointer (some ⟨p, 0, none⟩), .int .i64 i, .func (.func 61) #[] #[]] w fun r w' => r = .returned (.int .i64 (changeS hold i S).1) ∧ Scs B w' p b g q f e (changeS hold i S).2 ∧ Keep [b] w w' := by
  cases hin : inS i 1 S with
  | false =>
    have HA := Lib.hid (at_no B p b g q f e S i 1 _ h hin)
    have HH := Lib.hid h
    rw [show changeS hold i S = (11, S) by unfold changeS; rw [if_pos hin]]
    clear h hin
    go_enter Try.func49, Try.ntmps49
    go_wp2_with (go_at_call 46; refine HA.out.mono ?_; rintro r w1 ⟨rfl, rfl⟩)
    go_ret
    exact ⟨rfl, HH.out, Keep.refl _ _⟩
  | true =>
    obtain ⟨k, ⟨⟨s, n, p0, e0⟩, x0⟩, rfl, hk, hs⟩ := inS_yes hin (by omega)
    have HA := Lib.hid (at_yes B p b g q f e S k 1 _ h hin hk)
    obtain ⟨s', n', p', e', z, HZ⟩ : ∃ s' n' p' e' z, Hid (hold ⟨s, n, p0, e0⟩ = (⟨s', n', p', e'⟩, z)) := ⟨(hold ⟨s, n, p0, e0⟩).1.st, _, _, _, _, rfl⟩
    have hc : changeS hold k S = if z = 0 then (0, ⟨S.l.set k ⟨⟨s', n', p', e'⟩, x0⟩, S.F⟩) else (z, S) := by
      unfold changeS; rw [if_neg (by rw [hin]; simp), Int.toNat_natCast, hs]; simp only [HZ.out]
    have hr : z = 0 → Right ⟨s', n', p', e'⟩ := fun hz => by
      have := hold_right (c := ⟨s, n, p0, e0⟩)
      rw [HZ.out] at this
      exact this hz
    have HE := Lib.hid (fun W => hold_any s n p0 e0 W)
    obtain ⟨q0, q1, q2, q3, _, _⟩ := scs_cells h.row hs
    dsimp only at q0 q1 q2 q3
    have hb := h.lt.2.1
    have HH := Lib.hid h
    have Hs := Lib.hid hs
    rw [hc]
    clear hc h hin hs
    by_cases hz : z = 0
    · have Hr := Lib.hid (hr hz)
      rw [if_pos hz]
      subst hz
      clear hr
      go_enter Try.func49, Try.ntmps49
      go_wp2_with (first
        | (go_at_call 46; refine HA.out.mono ?_; rintro r w1 ⟨rfl, rfl⟩)
        | (go_at_call 61; refine (HE.out _).mono ?_; rintro r w1 ⟨rfl, hb1⟩; rw [HZ.out]; have R1 := Lib.hid (row_below HH.out.row hb1); have f0 := row_frozen R1.out (k * 6); have f1 := row_frozen R1.out (k * 6 + 1); have f2 := row_frozen R1.out (k * 6 + 2); have f3 := row_frozen R1.out (k * 6 + 3); obtain ⟨q0', q1', q2', q3', _, _⟩ := scs_cells R1.out Hs.out; clear q0 q1 q2 q3; dsimp only at q0' q1' q2' q3'; have hb1' := lt_of_heap R1.out))
      go_ret
      have K := ((keep_below hb1 [b]).four (b := b) (by simp) (k * 6) (k * 6 + 1) (k * 6 + 2) (k * 6 + 3) (.int .i64 s') (.int .i64 n') (.int .i64 p') (.int .i64 e')).alloc (.cells #[.int .i64 s', .int .i64 n', .int .i64 p', .int .i64 e'] 43)
      exact ⟨rfl, HH.out.other K _ (List.length_set ..) (row_alloc (scs_four R1.out Hs.out ⟨s', n', p', e'⟩)) (fun t ht => (mem_set_or ht).elim (fun e => by subst e; exact ⟨Hr.out, (HH.out.ok _ (List.mem_of_getElem? Hs.out)).x0, (HH.out.ok _ (List.mem_of_getElem? Hs.out)).x1⟩) (HH.out.ok t)), K⟩
    · have hz' : (z == 0) = false := by simpa using hz
      rw [if_neg hz]
      clear hr hz
      go_enter Try.func49, Try.ntmps49
      go_wp2_with (first
        | (go_at_call 46; refine HA.out.mono ?_; rintro r w1 ⟨rfl, rfl⟩)
        | (go_at_call 61; refine (HE.out _).mono ?_; rintro r w1 ⟨rfl, hb1⟩; rw [HZ.out]; clear q0 q1 q2 q3))
      go_ret
      have B1 := below_only hb1 (show Below w1.heap.size w1 (w1.alloc (.cells #[.int .i64 s', .int .i64 n', .int .i64 p', .int .i64 e'] 43)) by go_grown)
      exact ⟨rfl, HH.out.below B1, keep_below B1 _⟩


set_option maxHeartbeats 400000 in
theorem shold_any (B p b g : Nat) (q : Option Nat) (f e : Int) (S : Sco) (i : Int) (w : World) (h : Scs B w p b g q f e S) :
    Calls Try.prog 29 #[.pointer (some ⟨p, 0, none⟩), .int .i64 i] w fun r w' => r = .returned (.int .i64 (holdS i S).1) ∧ Scs B w' p b g q f e (holdS i S).2 ∧ Keep [b] w w' := by
  have HA := Lib.hid (changeHold_any B p b g q f e S i w h)
  clear h
  go_enter Try.func29, Try.ntmps29
  go_wp2_with (go_at_call 49; refine HA.out.mono ?_; rintro r w1 ⟨rfl, h1, k1⟩)
  go_ret
  exact ⟨rfl, h1, k1⟩


end Go.Proofs.Ytcicpfhbpcdjcaa
