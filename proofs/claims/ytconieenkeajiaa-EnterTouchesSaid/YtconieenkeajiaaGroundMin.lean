/- New grounds. -/
import Derived.Test.YtconieenkeajiaaGroundPlain
import Derived.Test.YtconieenkeajiaaNum
import Derived.Test.YtconieenkeajiaaHeap
import Derived.Test.YtconieenkeajiaaMore
import Derived.Deep.RegionHeld3
import Derived.BigGuardPart
import Derived.Laws.MakeOwn
namespace Go.Proofs.Ytconieenkeajiaa
open Go.RowKit

/-- a ground in memory: where it lies, from where to where it is, what is free, where the row of what is free lies -/
structure Gr (B : Nat) (w : World) (p : Nat) (f e : Int) (l : List Ext) (q : Option Nat) : Prop where
  mem : ∃ A c, w.heap[p]? = some (.cells #[.int .i64 f, .int .i64 e, .slice A l.length c] 134 (0, 0)) ∧ w.ownsRow B 108 2 (.slice A l.length c) l.length (l.flatMap extCells) ∧ (Value.slice A l.length c).ownBlock = q
  ne : q ≠ some p
  low : B ≤ p
  can : Canon f e l
  f0 : 0 ≤ f
  fe : f ≤ e
  e1 : e ≤ 131072

theorem Gr.below {B p : Nat} {w w' : World} {f e : Int} {l : List Ext} {q : Option Nat} (h : Gr B w p f e l q) (hb : Below w.heap.size w w') : Gr B w' p f e l q := by
  obtain ⟨A, c, h1, h2, h3⟩ := h.mem
  exact { h with mem := ⟨A, c, row_below h1 hb, own_below h2 hb, h3⟩ }
theorem i64_or_nat (X Y : Nat) (hX : X < 9223372036854775808) (hY : Y < 9223372036854775808) : bits .or .i64 (X : Int) (Y : Int) = ((X ||| Y : Nat) : Int) := by
  show IntKind.i64.wrap ((BitVec.ofInt 64 (X : Int) ||| BitVec.ofInt 64 (Y : Int)).toNat : Int) = _
  rw [BitVec.toNat_or, BitVec.ofInt_natCast, BitVec.ofInt_natCast, BitVec.toNat_ofNat, BitVec.toNat_ofNat, Nat.mod_eq_of_lt (by omega), Nat.mod_eq_of_lt (by omega)]
  have : X ||| Y < 2 ^ 63 := Nat.or_lt_two_pow (by omega) (by omega)
  exact IntWalk.i64_in _ (by omega)
theorem or_mod8 (a b : Int) (h0 : 0 ≤ a) (h1 : a < 9223372036854775808) (h2 : 0 ≤ b) (h3 : b < 9223372036854775808) : 0 ≤ bits .or .i64 a b ∧ bits .or .i64 a b ≤ 9223372036854775807 ∧ (bits .or .i64 a b % 8 = 0 ↔ a % 8 = 0 ∧ b % 8 = 0) := by
  obtain ⟨X, rfl⟩ := Int.eq_ofNat_of_zero_le h0
  obtain ⟨Y, rfl⟩ := Int.eq_ofNat_of_zero_le h2
  rw [i64_or_nat X Y (by omega) (by omega)]
  have hlt : X ||| Y < 2 ^ 63 := Nat.or_lt_two_pow (by omega) (by omega)
  have hm : (X ||| Y) % 8 = (X % 8) ||| (Y % 8) := Nat.or_mod_two_pow (n := 3)
  have h8 : (X ||| Y) % 8 = 0 ↔ X % 8 = 0 ∧ Y % 8 = 0 := by rw [hm, Nat.or_eq_zero_iff]
  refine ⟨by omega, by omega, ?_⟩
  constructor
  · intro h
    have := h8.1 (by omega)
    omega
  · intro h
    have := h8.2 (by omega)
    omega

def newMay (a s : Int) : Bool := inB a 0 65536 && inB s 0 65536 && decide (a % 8 = 0) && decide (s % 8 = 0)

def oneExt (a s : Int) : List Ext := if s = 0 then [] else [(a, s)]

set_option maxRecDepth 100000 in
set_option maxHeartbeats 1000000 in
theorem new_good (a s : Int) (w : World) (h : newMay a s = true) :
    Calls Try.prog 48 #[.int .i64 a, .int .i64 s] w fun e w' => ∃ p q, e = .returned (.tuple #[.pointer (some ⟨p, 0, none⟩), .int .i64 0]) ∧ Gr w.heap.size w' p a (a + s) (oneExt a s) q ∧ Below w.heap.size w w' := by
  unfold newMay at h
  simp only [Bool.and_eq_true, decide_eq_true_eq] at h
  obtain ⟨⟨⟨ha, hs⟩, ha8⟩, hs8⟩ := h
  have hba := ha
  have hbs := hs
  simp only [inB, decide_eq_true_eq] at hba hbs
  obtain ⟨a0, a1⟩ := hba
  obtain ⟨s0, s1⟩ := hbs
  obtain ⟨o1, o2, o3⟩ := or_mod8 a s (by omega) (by omega) (by omega) (by omega)
  have hd : ((bits .or .i64 a s % 8 : Int) != 0) = false := by
    rw [o3.2 ⟨ha8, hs8⟩]
    rfl
  have Ha8 := Lib.hid ha8
  have Hs8 := Lib.hid hs8
  clear o3 ha8 hs8
  by_cases hz : 0 < s
  · go_enter Try.func48, Try.ntmps48
    go_wp2_with (go_at_call 53; refine (within_any _ _ _ _).mono ?_; rintro r w1 ⟨rfl, rfl⟩; first | rw [ha] | rw [hs])
    go_ret2
    refine ⟨w1.heap.size, some (w1.heap.size + 1), rfl, ⟨?_, by simp, Nat.le_refl _, ?_, by omega, by omega, by omega⟩, by go_grown⟩
    · rw [oneExt, if_neg (by omega)]
      exact ⟨some ⟨w1.heap.size + 1, 0, none⟩, 1, row_alloc (row_new _ _ _), own_all (heap_at (by simp)) (by omega) rfl (by simp [maxLen]), rfl⟩
    · rw [oneExt, if_neg (by omega)]
      exact ⟨Int.le_refl _, hz, Ha8.out, Hs8.out, Int.le_refl _, trivial⟩
  · obtain rfl : s = 0 := by omega
    go_enter Try.func48, Try.ntmps48
    go_wp2_with (go_at_call 53; refine (within_any _ _ _ _).mono ?_; rintro r w1 ⟨rfl, rfl⟩; first | rw [ha] | rw [hs])
    go_ret2
    exact ⟨w1.heap.size, none, rfl, ⟨⟨none, 0, by rw [Int.add_zero]; exact row_new _ _ _, World.ownsRow_nil _ _ _ _, rfl⟩, by simp, Nat.le_refl _, trivial, by omega, by omega, by omega⟩, by go_grown⟩

abbrev boolsV (b : List Bool) : List Value := b.map Value.bool
/-- the document's ground in memory -/
structure RG (B : Nat) (w : World) (p q : Nat) (f : Int) (b : List Bool) : Prop where
  box : w.heap[p]? = some (.cells #[.int .i64 f, .slice (some ⟨q, 0, none⟩) b.length b.length] 138 (0, 0))
  row : w.heap[q]? = some (.cells (boolsV b).toArray 4 (0, 0))
  ne : q ≠ p
  low : B ≤ p
  lowq : B ≤ q
  f0 : 0 ≤ f
  f1 : f + 8 * (b.length : Int) ≤ 131072

theorem RG.below {B p q : Nat} {w w' : World} {f : Int} {b : List Bool} (h : RG B w p q f b) (hb : Below w.heap.size w w') : RG B w' p q f b := { h with box := row_below h.box hb, row := row_below h.row hb }
theorem bools_cell {w : World} {q : Nat} {b : List Bool} (h : w.heap[q]? = some (.cells (boolsV b).toArray 4 (0, 0))) (k : Nat) (v : Bool) (hv : b[k]? = some v) : w.cell? ⟨q, k, none⟩ = some (.bool v) := by
  rw [row_cell h]
  simp [boolsV, hv]
theorem bools_set {b : List Bool} (k : Nat) (v : Bool) : ((boolsV b).toArray.setIfInBounds k (.bool v)) = (boolsV (b.set k v)).toArray := by
  apply Array.ext'
  simp [boolsV, List.map_set]
theorem RG.store {B p q : Nat} {w : World} {f : Int} {b : List Bool} (h : RG B w p q f b) (k : Nat) (v : Bool) : RG B (w.setCell ⟨q, k, none⟩ (.bool v)).drew p q f (b.set k v) := by
  have h1 : (w.setCell ⟨q, k, none⟩ (.bool v)).heap[p]? = w.heap[p]? := Below.heap_setCell _ _ _ _ (fun e => h.ne e.symm)
  have h2 := row_set (i := k) h.row (.bool v)
  rw [bools_set] at h2
  exact ⟨by rw [List.length_set]; exact (show (w.setCell ⟨q, k, none⟩ (.bool v)).drew.heap[p]? = _ from h1.trans h.box), h2, h.ne, h.low, h.lowq, h.f0, by rw [List.length_set]; exact h.f1⟩

theorem run_make_rowN {P : Program} (t e : TypeId) (i : TypeInfo) (z : Value) (ht : P.underlying t = some (.slice e)) (hi : P.info? e = some i) (hz : i.zero = some z)
    (kl kc : IntKind) (n c : Nat) (hnc : n ≤ c) (hbytes : i.bytes * c ≤ 281474976710656) (h63 : c ≤ 9223372036854775807) (w : World) :
    (Instr.makeSlice t (.int kl (n : Int)) (.int kc (c : Int))).run P w = .ok (.slice (some ⟨w.heap.size, 0, none⟩) n c) (w.alloc (.cells (madeCells z.cells (c * i.size)) e)) := by
  have hb : (i.bytes : Int) * (c : Int) ≤ 281474976710656 := by
    have h : ((i.bytes * c : Nat) : Int) ≤ 281474976710656 := by omega
    rwa [Int.natCast_mul] at h
  have hr := run_make (P := P) w t e i z ht hi hz kl kc n c (by omega) (by omega) hb (by omega)
  simp only [Int.toNat_natCast] at hr
  exact hr
theorem infoBool : (Try.prog.info? 4).map (fun i => (i.zero, i.size, i.bytes)) = some (some (.bool false), 1, 1) := by kernel_rfl
theorem made_bools (m : Nat) : madeCells (Value.bool false).cells (m * 1) = (boolsV (List.replicate m false)).toArray := by
  apply Array.ext'
  apply List.ext_getElem?
  intro j
  simp only [madeCells, boolsV, Value.cells]
  by_cases h : j < m
  · simp [h, Nat.mod_one]
  · simp [h]
theorem RG.setc {B p q : Nat} {w : World} {f : Int} {b : List Bool} (h : RG B w p q f b) (k : Nat) (v : Bool) : RG B (w.setCell ⟨q, k, none⟩ (.bool v)) p q f (b.set k v) := by
  have := h.store k v
  exact ⟨this.box, this.row, this.ne, this.low, this.lowq, this.f0, this.f1⟩

set_option maxRecDepth 100000 in
set_option maxHeartbeats 1000000 in
theorem rnew_any (f n : Int) (m : Nat) (w : World) (f0 : 0 ≤ f) (hn : n = 8 * (m : Int)) (f1 : f + n ≤ 131072) :
    Calls Try.prog 58 #[.int .i64 f, .int .i64 n] w fun r w' => ∃ p q, r = .returned (.pointer (some ⟨p, 0, none⟩)) ∧ RG w.heap.size w' p q f (List.replicate m true) ∧ Below w.heap.size w w' := by
  obtain ⟨i0, hi0, hz0, hz1, hz2⟩ := info_parts infoBool
  have hmk := fun W => run_make_rowN (P := Try.prog) 136 4 i0 (.bool false) Try.underlying136 hi0 hz0 .i64 .i64 m m (Nat.le_refl _) (by rw [hz2]; omega) (by omega) W
  rw [hz1, made_bools] at hmk
  have e1 : n / 8 = m := by omega
  have n0 : 0 ≤ n := by omega
  have n1 : n ≤ 131072 := by omega
  have hf1 := Lib.hid (show f + 8 * (m : Int) ≤ 131072 by omega)
  have m1 : m ≤ 16384 := by omega
  clear hn f1
  go_enter Try.func58, Try.ntmps58
  go_wp2
  go_loopw [6] (fun t wr => ∃ (k : Nat) (b : List Bool), k ≤ m ∧ t = .int .i64 k ∧ b.length = m ∧ (∀ j, j < k → b[j]? = some true) ∧ RG w.heap.size wr (w.heap.size + 1) w.heap.size f b ∧ Below w.heap.size w wr) (fun t _ => m - (intOf t).toNat)
  case atStart =>
    refine ⟨0, List.replicate m false, Nat.zero_le _, rfl, by simp, by omega, ⟨?_, ?_, by omega, by omega, by omega, f0, by simpa using hf1.out⟩, by go_grown⟩
    · rw [List.length_replicate]
      exact heap_at (by simp)
    · rw [show (boolsV (List.replicate m false)).toArray = Array.replicate m (Value.bool false) by apply Array.ext'; simp [boolsV]]
      exact row_alloc (row_new _ _ _)
  case round =>
    obtain ⟨k, b, hk, rfl, hbl, hb, hR, hB⟩ := hrel
    have HR := Lib.hid hR
    have HB := Lib.hid hB
    have Hbl := Lib.hid hbl
    have Hb := Lib.hid hb
    obtain ⟨p0, p1, p0f, p1f⟩ := box2 hR.box
    rw [hbl] at p1
    clear hR hB hbl hb
    by_cases hlt : k < m
    · obtain ⟨old, hold⟩ : ∃ old, b[k]? = some old := ⟨_, List.getElem?_eq_getElem (by rw [Hbl.out]; exact hlt)⟩
      have c0 := bools_cell HR.out.row k old hold
      have c0f : wr.frozen? ⟨w.heap.size, k, none⟩ = false := row_frozen HR.out.row _
      have Hold := Lib.hid hold
      clear hold
      go_wp2
      go_roundw
      case rel =>
        refine ⟨k + 1, b.set k true, hlt, by go_num, by rw [List.length_set]; exact Hbl.out, fun j hj => ?_, HR.out.setc k true, HB.out.setCell (Nat.le_refl _) _⟩
        rw [List.getElem?_set]
        split
        · rw [if_pos (by rw [Hbl.out]; omega)]
        · exact Hb.out j (by omega)
      case measure => simp [intOf]; omega
    · obtain rfl : k = m := by omega
      have he : b = List.replicate k true := by
        apply List.ext_getElem?
        intro j
        rw [List.getElem?_replicate]
        split
        · rename_i h
          exact Hb.out j h
        · rename_i h
          rw [List.getElem?_eq_none (by rw [Hbl.out]; omega)]
      subst he
      go_wp2
      go_ret
      exact ⟨_, _, rfl, HR.out, HB.out⟩

end Go.Proofs.Ytconieenkeajiaa
