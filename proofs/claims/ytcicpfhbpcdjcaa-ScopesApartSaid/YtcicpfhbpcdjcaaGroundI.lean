/- Carve and Give in one form each; Same; the law's 'shown'. -/
import Derived.Test.YtcicpfhbpcdjcaaGroundH
import Derived.Test.YtcicpfhbpcdjcaaOpen
namespace Go.Proofs.Ytcicpfhbpcdjcaa
open Go.RowKit

def carveF (n : Int) (l : List Ext) : Int × Bool × List Ext :=
  if carveBad n then (0, false, l) else match carveAt n l with
    | none => (0, false, l)
    | some i => match l[i]? with
      | none => (0, false, l)
      | some x => (x.1, true, carveRest n i x l)
def giveF (f e a n : Int) (l : List Ext) : Int × List Ext := if giveBad f e a n || giveMeets a n l then (1, l) else (0, joins (giveAll a n l))

theorem Gr.blocks {B p : Nat} {w : World} {f e : Int} {l : List Ext} {q : Option Nat} (h : Gr B w p f e l q) : ∀ i ∈ p :: q.toList, B ≤ i := by
  intro i hi
  rcases List.mem_cons.1 hi with rfl | hi
  · exact h.low
  · exact (h.lt.2 i (by simpa using hi)).2
theorem Gr.keep_below {B p : Nat} {a w w' : World} {f e : Int} {l : List Ext} {q : Option Nat} (h : Gr B w p f e l q) (hb : Below B a w) (k : Keep (p :: q.toList) w w') : Below B a w' :=
  Keep.under hb k (Nat.le_trans h.low (Nat.le_of_lt h.lt.1)) h.blocks

theorem carve_any (B p : Nat) (f e : Int) (l : List Ext) (q : Option Nat) (n : Int) (w : World) (h : Gr B w p f e l q) :
    Calls Try.prog 45 #[.pointer (some ⟨p, 0, none⟩), .int .i64 n] w fun r w' =>
      r = .returned (.tuple #[.int .i64 (carveF n l).1, .bool (carveF n l).2.1]) ∧ Gr B w' p f e (carveF n l).2.2 q ∧ Keep (p :: q.toList) w w' := by
  unfold carveF
  split
  · rename_i hb
    exact (carve_no B p f e l q n w h (.inl hb)).mono fun r w' ⟨h1, h2⟩ => ⟨h1, h.below h2, keep_below h2 _⟩
  · rename_i hb
    split
    · rename_i hn
      exact (carve_no B p f e l q n w h (.inr hn)).mono fun r w' ⟨h1, h2⟩ => ⟨h1, h.below h2, keep_below h2 _⟩
    · rename_i i hi
      obtain ⟨x, hx, _⟩ := findIdx_some hi
      have hbad : 1 ≤ n ∧ n % 8 = 0 := by
        simp only [carveBad, Bool.or_eq_true, decide_eq_true_eq, not_or] at hb
        omega
      rw [hx]
      exact carve_yes B p f e l q n i x w h hbad.1 hbad.2 hi hx

theorem give_any (B p : Nat) (f e : Int) (l : List Ext) (q : Option Nat) (a n : Int) (w : World) (h : Gr B w p f e l q) (ha : -9223372036854775808 ≤ a ∧ a ≤ 9223372036854775807) :
    Calls Try.prog 47 #[.pointer (some ⟨p, 0, none⟩), .int .i64 a, .int .i64 n] w fun r w' =>
      r = .returned (.int .i64 (giveF f e a n l).1) ∧ (∃ q', Gr B w' p f e (giveF f e a n l).2 q' ∧ ∀ i, q' = some i → q = some i ∨ w.heap.size ≤ i) ∧ Keep [p] w w' := by
  unfold giveF
  cases hb : giveBad f e a n with
  | true =>
    rw [Bool.true_or, if_pos rfl]
    exact (give_bad B p f e l q a n w h hb ha).mono fun r w' ⟨h1, h2⟩ => ⟨h1, ⟨q, h.below h2, fun i hi => .inl hi⟩, keep_below h2 _⟩
  | false =>
    rw [Bool.false_or]
    cases hm : giveMeets a n l with
    | true =>
      rw [if_pos rfl]
      exact (give_meet B p f e l q a n w h hb hm).mono fun r w' ⟨h1, h2⟩ => ⟨h1, ⟨q, h.below h2, fun i hi => .inl hi⟩, keep_below h2 _⟩
    | false =>
      rw [if_neg (by simp)]
      exact (give_yes B p f e l q a n w h hb hm).mono fun r w' ⟨h1, ⟨q', h2, h3⟩, h4⟩ => ⟨h1, ⟨q', h2, fun i hi => .inr (h3 i hi)⟩, h4⟩

theorem keep_more {p : Nat} {w w' : World} (q : Option Nat) (hk : Keep [p] w w') : Keep (p :: q.toList) w w' :=
  hk.mono fun k _ hm => by simp at hm; simp [hm]

theorem intEql (d : Nat) (s s' : Int) (w : World) : (Op.equalIn (d + 1) 3 (.int .i64 s) (.int .i64 s')).run Try.prog w = .ok (s == s') w := run_equalIn_int w d _ _ _ _ _ Try.underlying3
@[go_sem] theorem eqgExt : Try.prog.eqGuardType Try.prog.depth 32 = false := by kernel_rfl
theorem stoodExt : Try.prog.stoodInHeld 32 = false := by kernel_rfl
theorem undExt : Try.prog.underlying 32 = some (.struct (Try.prog.fieldsOf 32)) := by kernel_rfl
@[go_sem high] theorem eqlExt (w : World) (s s' x x' : Int) : (binOp .eql 32 (.agg #[.int .i64 s, .int .i64 x]) (.agg #[.int .i64 s', .int .i64 x'])).run Try.prog w = .ok (.bool (s == s' && x == x')) w := by
  rw [run_eql_struct, run_equalIn_agg _ _ _ _ _ undExt stoodExt]
  simp [Op.eqFields, go_sem, intEql]
  by_cases h : s = s' <;> by_cases h' : x = x' <;> simp [h, h']
@[go_sem high] theorem neqExt (w : World) (s s' x x' : Int) : (binOp .neq 32 (.agg #[.int .i64 s, .int .i64 x]) (.agg #[.int .i64 s', .int .i64 x'])).run Try.prog w = .ok (.bool (!(s == s' && x == x'))) w := by
  rw [run_neq_struct, run_equalIn_agg _ _ _ _ _ undExt stoodExt]
  simp [Op.eqFields, go_sem, intEql]
  by_cases h : s = s' <;> by_cases h' : x = x' <;> simp [h, h']
@[go_sem high] theorem eqlErr (w : World) (a b : Int) : (binOp .eql 28 (.int .i64 a) (.int .i64 b)).run Try.prog w = .ok (.bool (a == b)) w := by
  simp [go_sem]
@[go_sem high] theorem neqErr (w : World) (a b : Int) : (binOp .neq 28 (.int .i64 a) (.int .i64 b)).run Try.prog w = .ok (.bool (a != b)) w := by
  simp [go_sem]


set_option maxHeartbeats 1000000 in
theorem same_any (A B : Option Addr) (c d : Nat) (l m : List Ext) (w : World) (hl : l.length ≤ 9223372036854775807) (hm : m.length ≤ 9223372036854775807) (ha : Exts w A l) (hb : Exts w B m) :
    Calls Try.prog 34 #[.slice A l.length c, .slice B m.length d] w fun e w' => e = .returned (.bool (decide (l = m))) ∧ Below w.heap.size w w' := by
  by_cases hlen : l.length = m.length
  · have hlen' : ((l.length : Int) != (m.length : Int)) = false := by rw [hlen]; simp
    have Hlen := Lib.hid hlen
    clear hlen
    go_enter Try.func34, Try.ntmps34
    go_wp2
    go_loopw [5] (fun t wr => ∃ k nq : Nat, k ≤ l.length ∧ t = .int .i64 k ∧ (∀ j, j < k → l[j]? = m[j]?) ∧ wr = w.drewN nq)
      (fun t _ => l.length - (intOf t).toNat)
    case atStart => exact ⟨0, 0, Nat.zero_le _, rfl, by omega, rfl⟩
    case round =>
      obtain ⟨k, nq, hk, rfl, hn, rfl⟩ := hrel
      have Hn := Lib.hid hn
      clear hn
      by_cases hlt : k < l.length
      · have hltm : k < m.length := by rw [← Hlen.out]; exact hlt
        obtain ⟨b, off, rfl, hbl, hc⟩ := exts_at ha (by omega)
        obtain ⟨b', off', rfl, hbl', hc'⟩ := exts_at hb (by omega)
        obtain ⟨x, hv⟩ : ∃ x, l[k]? = some x := ⟨_, List.getElem?_eq_getElem hlt⟩
        obtain ⟨y, hv'⟩ : ∃ y, m[k]? = some y := ⟨_, List.getElem?_eq_getElem hltm⟩
        obtain ⟨x0, x1⟩ := hc k x hv
        obtain ⟨y0, y1⟩ := hc' k y hv'
        have Hv := Lib.hid hv
        have Hv' := Lib.hid hv'
        clear hv hv' hc hc' ha hb
        by_cases heq : (x.1 == y.1 && x.2 == y.2) = true
        · have hq : (!(x.1 == y.1 && x.2 == y.2)) = false := by rw [heq]; rfl
          have hxy : x = y := by
            simp only [Bool.and_eq_true, beq_iff_eq] at heq
            exact Prod.ext heq.1 heq.2
          have Hxy := Lib.hid hxy
          clear hxy
          go_wp2
          go_quiet (fail)
          go_wp2
          go_roundw
          case rel =>
            refine ⟨k + 1, _, hlt, by go_num, fun j hj => ?_, rfl⟩
            rcases Nat.lt_or_ge j k with h | h
            · exact Hn.out j h
            · obtain rfl : j = k := by omega
              rw [Hv.out, Hv'.out, Hxy.out]
          case measure => simp [intOf]; omega
        · have hne : (x.1 == y.1 && x.2 == y.2) = false := by simpa using heq
          have hq : (!(x.1 == y.1 && x.2 == y.2)) = true := by rw [hne]; rfl
          have Hd := Lib.hid (show decide (l = m) = false from decide_eq_false (fun e => by
            have h1 := Hv.out
            rw [e, Hv'.out] at h1
            injection h1 with h1
            subst h1
            simp at heq))
          clear heq
          go_wp2
          go_quiet (fail)
          go_wp2
          go_ret
          exact ⟨by rw [Hd.out]; rfl, by repeat (first | exact Below.refl _ _ | refine below_drewN ?_ _)⟩
      · have Hd := Lib.hid (show decide (l = m) = true by
          refine decide_eq_true (List.ext_getElem? (fun j => ?_))
          have := Hlen.out
          rcases Nat.lt_or_ge j k with h | h
          · exact Hn.out j h
          · rw [List.getElem?_eq_none (by omega), List.getElem?_eq_none (by omega)])
        go_wp2
        go_ret
        exact ⟨by rw [Hd.out]; rfl, by repeat (first | exact Below.refl _ _ | refine below_drewN ?_ _)⟩
  · have hlen' : ((l.length : Int) != (m.length : Int)) = true := by simp; omega
    have Hd := Lib.hid (show decide (l = m) = false from decide_eq_false (fun e => hlen (by rw [e])))
    clear hlen
    go_enter Try.func34, Try.ntmps34
    go_wp2
    go_ret
    exact ⟨by rw [Hd.out]; rfl, Below.refl _ _⟩

end Go.Proofs.Ytcicpfhbpcdjcaa
