/- Carve and Give in one form each; Same; the law's 'shown'. What is held and given back again, in plain terms. No program in sight. The document's ground, word by word, and the rows of extents, in plain terms. No program in sight. -/
import Derived.Test.YtbijaloeilnjoaaGreatMG
import Derived.Test.YtbijaloeilnjoaaGreatMA
namespace Go.Proofs.YtbijaloeilnjoaaGreat
open Go.RowKit

def carveF (n : Int) (l : List Ext) : Int × Bool × List Ext :=
 if carveBad n then (0, false, l) else match carveAt n l with
  | none => (0, false, l)
  | some i => match l[i]? with
   | none => (0, false, l)
   | some x => (x.1, true, carveRest n i x l)
def giveF (f e a n : Int) (l : List Ext) : Int × List Ext := if giveBad f e a n || giveMeets a n l then (1, l) else (0, joins (giveAll a n l))

theorem Gr.blocks {B p : Nat} {w : World} {f e : Int} {l : List Ext} {q : Option Nat} (h : Gr B w p f e l q) : ∀ i ∈ p :: q.toList, B ≤ i := by
 intro i hi
 rcases List.mem_cons.1 hi with rfl | hi
 ·exact h.low
 ·exact (h.lt.2 i (by simpa using hi)).2
theorem Gr.keep_below {B p : Nat} {a w w' : World} {f e : Int} {l : List Ext} {q : Option Nat} (h : Gr B w p f e l q) (hb : Below B a w) (k : Keep (p :: q.toList) w w') : Below B a w' :=
 Keep.under hb k (Nat.le_trans h.low (Nat.le_of_lt h.lt.1)) h.blocks

theorem carve_any (B p : Nat) (f e : Int) (l : List Ext) (q : Option Nat) (n : Int) (w : World) (h : Gr B w p f e l q) :
  Calls Tryz.prog 80 #[.pointer (some ⟨p, 0, none⟩), .int .i64 n] w fun r w' =>
   r = .returned (.tuple #[.int .i64 (carveF n l).1, .bool (carveF n l).2.1]) ∧ Gr B w' p f e (carveF n l).2.2 q ∧ Keep (p :: q.toList) w w' := by
 unfold carveF
 split
 ·rename_i hb
  exact (carve_no B p f e l q n w h (.inl hb)).mono fun r w' ⟨h1, h2⟩ => ⟨h1, h.below h2, keep_below h2 _⟩
 ·rename_i hb
  split
  ·rename_i hn
   exact (carve_no B p f e l q n w h (.inr hn)).mono fun r w' ⟨h1, h2⟩ => ⟨h1, h.below h2, keep_below h2 _⟩
  ·rename_i i hi
   obtain ⟨x, hx, _⟩ := findIdx_some hi
   have hbad : 1 ≤ n ∧ n % 8 = 0 := by
    simp only [carveBad, Bool.or_eq_true, decide_eq_true_eq, not_or] at hb
    omega
   rw [hx]
   exact carve_yes B p f e l q n i x w h hbad.1 hbad.2 hi hx



theorem gintEql (d : Nat) (s s' : Int) (w : World) : (Op.equalIn (d + 1) 3 (.int .i64 s) (.int .i64 s')).run Tryz.prog w = .ok (s == s') w := run_equalIn_int w d _ _ _ _ _ Tryz.underlying3
@[go_sem] theorem eqgExt : Tryz.prog.eqGuardType Tryz.prog.depth 124 = false := by kernel_rfl
theorem stoodExt : Tryz.prog.stoodInHeld 124 = false := by kernel_rfl
theorem undExt : Tryz.prog.underlying 124 = some (.struct (Tryz.prog.fieldsOf 124)) := by kernel_rfl
@[go_sem high] theorem eqlExt (w : World) (s s' x x' : Int) : (binOp .eql 124 (.agg #[.int .i64 s, .int .i64 x]) (.agg #[.int .i64 s', .int .i64 x'])).run Tryz.prog w = .ok (.bool (s == s' && x == x')) w := by
 rw [run_eql_struct, run_equalIn_agg _ _ _ _ _ undExt stoodExt]
 simp [Op.eqFields, go_sem, gintEql]
 by_cases h : s = s' <;> by_cases h' : x = x' <;> simp [h, h']
@[go_sem high] theorem neqExt (w : World) (s s' x x' : Int) : (binOp .neq 124 (.agg #[.int .i64 s, .int .i64 x]) (.agg #[.int .i64 s', .int .i64 x'])).run Tryz.prog w = .ok (.bool (!(s == s' && x == x'))) w := by
 rw [run_neq_struct, run_equalIn_agg _ _ _ _ _ undExt stoodExt]
 simp [Op.eqFields, go_sem, gintEql]
 by_cases h : s = s' <;> by_cases h' : x = x' <;> simp [h, h']
@[go_sem high] theorem eqlErr (w : World) (a b : Int) : (binOp .eql 39 (.int .i64 a) (.int .i64 b)).run Tryz.prog w = .ok (.bool (a == b)) w := by
 simp [go_sem]
@[go_sem high] theorem neqErr (w : World) (a b : Int) : (binOp .neq 39 (.int .i64 a) (.int .i64 b)).run Tryz.prog w = .ok (.bool (a != b)) w := by
 simp [go_sem]


end Go.Proofs.YtbijaloeilnjoaaGreat

namespace Go.Proofs.YtbijaloeilnjoaaGreat
open Go.RowKit

def total : List Ext → Int
 | [] => 0
 | x :: l => x.2 + total l
theorem total_append (l m : List Ext) : total (l ++ m) = total l + total m := by
 induction l with
 | nil => simp [total]
 | cons x l ih => rw [List.cons_append, total, total, ih]; omega
theorem total_carve (n : Int) {l : List Ext} {i : Nat} {x : Ext} (h : l[i]? = some x) : total (carveRest n i x l) = total l - n := by
 have hp := parted h
 rw [carveRest_eq n h, total_append, total_append]
 have : total l = total (l.take i) + (x.2 + total (l.drop (i + 1))) := by
  conv => lhs; rw [hp]
  rw [total_append, total]
 split
 ·simp [total]; omega
 ·simp [total]; omega

theorem carve_false {n : Int} {l : List Ext} (h : (carveF n l).2.1 = false) : (carveF n l).1 = 0 ∧ (carveF n l).2.2 = l := by
 unfold carveF at h ⊢
 split
 ·simp
 ·split
  ·simp
  ·split
   ·simp
   ·rename_i h1 _ _ h2 _ _ h3
    rw [if_neg h1, h2] at h
    simp [h3] at h
theorem carve_true {n : Int} {l : List Ext} (h : (carveF n l).2.1 = true) : carveBad n = false ∧ ∃ i x, carveAt n l = some i ∧ l[i]? = some x ∧ carveF n l = (x.1, true, carveRest n i x l) := by
 unfold carveF at h ⊢
 split at h
 ·simp at h
 ·rename_i h1
  split at h
  ·simp at h
  ·rename_i i h2
   split at h
   ·simp at h
   ·rename_i x h3
    exact ⟨by simpa using h1, i, x, h2, h3, if_neg h1⟩

theorem carveBad_no {n : Int} : carveBad n = false ↔ 1 ≤ n ∧ n % 8 = 0 := by
 unfold carveBad
 simp only [Bool.or_eq_false_iff, decide_eq_false_iff_not]
 omega

/-- what comes of a carving that is let in -/
theorem carve_got {f e n : Int} {l : List Ext} (h : Canon f e l) (hc : (carveF n l).2.1 = true) :
  1 ≤ n ∧ n % 8 = 0 ∧ Canon f e (carveF n l).2.2 ∧ Fits f e ((carveF n l).1, n) ∧ total (carveF n l).2.2 = total l - n ∧
   (∀ j, cov l j ↔ cov (carveF n l).2.2 j ∨ ((carveF n l).1 ≤ j ∧ j < (carveF n l).1 + n)) ∧ ∀ j, cov (carveF n l).2.2 j → ¬ ((carveF n l).1 ≤ j ∧ j < (carveF n l).1 + n) := by
 obtain ⟨hb, i, x, hi, hx, he⟩ := carve_true hc
 obtain ⟨n1, n8⟩ := carveBad_no.1 hb
 obtain ⟨y, hy, _, hp, _⟩ := findIdx_some hi
 rw [hx] at hy
 injection hy with hy
 subst hy
 have hn : n ≤ x.2 := by simpa using hp
 obtain ⟨k1, k2, k3⟩ := carve_fit h hx (by omega) n8 hn
 have hm := h.mem (List.mem_of_getElem? hx)
 rw [he]
 exact ⟨n1, n8, k1, ⟨hm.1, by show 0 < n; omega, hm.2.2.1, n8, by show x.1 + n ≤ e; omega⟩, total_carve n hx, k2, k3⟩

/-- those that are held: within, apart, and not free -/
structure Held (f e : Int) (l H : List Ext) : Prop where
 fit : ∀ x ∈ H, Fits f e x
 apart : H.Pairwise fun x y => x.1 + x.2 ≤ y.1 ∨ y.1 + y.2 ≤ x.1
 free : ∀ x ∈ H, ∀ j, x.1 ≤ j → j < x.1 + x.2 → ¬ cov l j

theorem Held.nil (f e : Int) (l : List Ext) : Held f e l [] := ⟨fun _ h => absurd h (by simp), List.Pairwise.nil, fun _ h => absurd h (by simp)⟩
theorem Held.less {f e : Int} {l l' H : List Ext} (h : Held f e l H) (hc : ∀ j, cov l' j → cov l j) : Held f e l' H := ⟨h.fit, h.apart, fun x hx j h1 h2 h3 => h.free x hx j h1 h2 (hc j h3)⟩
theorem Held.keep {f e n : Int} {l H : List Ext} (hl : Canon f e l) (h : Held f e l H) : Held f e (carveF n l).2.2 H := by
 cases hc : (carveF n l).2.1 with
 | false => rw [(carve_false hc).2]; exact h
 | true =>
  obtain ⟨_, _, _, _, _, h6, _⟩ := carve_got hl hc
  exact h.less fun j hj => (h6 j).2 (.inl hj)
theorem Held.more {f e n : Int} {l H : List Ext} (hl : Canon f e l) (h : Held f e l H) (hc : (carveF n l).2.1 = true) : Held f e (carveF n l).2.2 (H ++ [((carveF n l).1, n)]) := by
 have hk := h.keep (n := n) hl
 obtain ⟨n1, _, _, h4, _, h6, h7⟩ := carve_got hl hc
 refine ⟨fun x hx => ?_, ?_, fun x hx j h1 h2 => ?_⟩
 ·rcases List.mem_append.1 hx with hx | hx
  ·exact h.fit x hx
  ·simp at hx
   subst hx
   exact h4
 ·rw [List.pairwise_append]
  refine ⟨h.apart, List.pairwise_singleton _ _, fun x hx y hy => ?_⟩
  simp at hy
  subst hy
  have hx0 := (h.fit x hx).2.1
  show x.1 + x.2 ≤ (carveF n l).1 ∨ (carveF n l).1 + n ≤ x.1
  by_cases h1 : x.1 + x.2 ≤ (carveF n l).1
  ·exact .inl h1
  ·by_cases h2 : (carveF n l).1 + n ≤ x.1
   ·exact .inr h2
   ·exfalso
    by_cases h3 : x.1 ≤ (carveF n l).1
    ·exact h.free x hx (carveF n l).1 h3 (by omega) ((h6 _).2 (.inr ⟨by omega, by omega⟩))
    ·exact h.free x hx x.1 (by omega) (by omega) ((h6 _).2 (.inr ⟨by omega, by omega⟩))
 ·rcases List.mem_append.1 hx with hx | hx
  ·exact hk.free x hx j h1 h2
  ·simp at hx
   subst hx
   exact fun hcov => h7 j hcov ⟨h1, h2⟩

theorem Held.apart_of {f e : Int} {l H : List Ext} (h : Held f e l H) {i k : Nat} {x y : Ext} (hx : H[i]? = some x) (hy : H[k]? = some y) (hne : i ≠ k) (j : Int) (h1 : x.1 ≤ j ∧ j < x.1 + x.2) : ¬ (y.1 ≤ j ∧ j < y.1 + y.2) := by
 have hp := h.apart
 rw [List.pairwise_iff_getElem] at hp
 obtain ⟨hi, rfl⟩ := List.getElem?_eq_some_iff.1 hx
 obtain ⟨hk, rfl⟩ := List.getElem?_eq_some_iff.1 hy
 rcases Nat.lt_or_gt_of_ne hne with g | g
 ·have := hp i k hi hk g
  omega
 ·have := hp k i hk hi g
  omega

/-- as many as i of those that were held are given back, in the order s -/
structure Given (f e : Int) (l0 H : List Ext) (s : Nat → Nat) (i : Nat) (l : List Ext) : Prop where
 can : Canon f e l
 cov : ∀ j, cov l j ↔ cov l0 j ∨ ∃ k x, k < i ∧ H[s k]? = some x ∧ x.1 ≤ j ∧ j < x.1 + x.2

theorem Given.zero {f e : Int} {l : List Ext} (H : List Ext) (s : Nat → Nat) (h : Canon f e l) : Given f e l H s 0 l := ⟨h, fun j => ⟨.inl, fun h => h.elim id (fun ⟨k, _, hk, _⟩ => by omega)⟩⟩

theorem giveBad_no {f e a n : Int} (h : Fits f e (a, n)) : giveBad f e a n = false := by
 obtain ⟨h1, h2, h3, h4, h5⟩ := h
 simp only at h1 h2 h3 h4 h5
 unfold giveBad
 simp only [Bool.or_eq_false_iff, decide_eq_false_iff_not]
 omega
theorem give_got {f e a n : Int} {l : List Ext} (h : Canon f e l) (hx : Fits f e (a, n)) (hn : ∀ j, a ≤ j → j < a + n → ¬ cov l j) : giveF f e a n l = (0, joins (giveAll a n l)) ∧ Canon f e (joins (giveAll a n l)) ∧ ∀ j, cov (joins (giveAll a n l)) j ↔ cov l j ∨ (a ≤ j ∧ j < a + n) := by
 have hm : giveMeets a n l = false := by
  cases hm : giveMeets a n l with
  | false => rfl
  | true =>
   obtain ⟨j, h1, h2, h3⟩ := (give_meets h hx.2.1).1 hm
   exact absurd h3 (hn j h1 h2)
 refine ⟨?_, give_fit h hx.2.1 hx.2.2.2.1 hx.2.2.1 hx.1 hx.2.2.2.2 hm⟩
 unfold giveF
 rw [giveBad_no hx, hm]
 rfl

theorem Given.next {f e : Int} {l0 H l : List Ext} {s : Nat → Nat} {i : Nat} {x : Ext} (hH : Held f e l0 H) (hs : ∀ k, k < i → s k ≠ s i) (h : Given f e l0 H s i l) (hx : H[s i]? = some x) :
  giveF f e x.1 x.2 l = (0, joins (giveAll x.1 x.2 l)) ∧ Given f e l0 H s (i + 1) (joins (giveAll x.1 x.2 l)) := by
 have hf := hH.fit x (List.mem_of_getElem? hx)
 obtain ⟨h1, h2, h3⟩ := give_got (a := x.1) (n := x.2) h.can hf (fun j j1 j2 hc => by
  rcases (h.cov j).1 hc with hc | ⟨k, y, hk, hy, y1, y2⟩
  ·exact hH.free x (List.mem_of_getElem? hx) j j1 j2 hc
  ·exact hH.apart_of hx hy (fun e => hs k hk e.symm) j ⟨j1, j2⟩ ⟨y1, y2⟩)
 refine ⟨h1, h2, fun j => ?_⟩
 rw [h3, h.cov]
 constructor
 ·rintro ((hc | ⟨k, y, hk, hy⟩) | hc)
  ·exact .inl hc
  ·exact .inr ⟨k, y, by omega, hy⟩
  ·exact .inr ⟨i, x, by omega, hx, hc⟩
 ·rintro (hc | ⟨k, y, hk, hy, hc⟩)
  ·exact .inl (.inl hc)
  ·by_cases hki : k = i
   ·subst hki
    rw [hx] at hy
    injection hy with hy
    subst hy
    exact .inr hc
   ·exact .inl (.inr ⟨k, y, by omega, hy, hc⟩)

/-- all are given back, in whichever order -/
theorem Given.all {f e : Int} {l0 H l m : List Ext} {s t : Nat → Nat} (hs : ∀ k, k < H.length → ∃ i, i < H.length ∧ s i = k) (ht : ∀ k, k < H.length → ∃ i, i < H.length ∧ t i = k)
  (h : Given f e l0 H s H.length l) (k : Given f e l0 H t H.length m) : l = m := by
 refine h.can.unique k.can fun j => ?_
 rw [h.cov, k.cov]
 constructor
 ·rintro (hc | ⟨i, x, hi, hx, hc⟩)
  ·exact .inl hc
  ·obtain ⟨i', hi', e⟩ := ht (s i) (List.getElem?_eq_some_iff.1 hx).1
   exact .inr ⟨i', x, hi', by rw [e]; exact hx, hc⟩
 ·rintro (hc | ⟨i, x, hi, hx, hc⟩)
  ·exact .inl hc
  ·obtain ⟨i', hi', e⟩ := hs (t i) (List.getElem?_eq_some_iff.1 hx).1
   exact .inr ⟨i', x, hi', by rw [e]; exact hx, hc⟩

end Go.Proofs.YtbijaloeilnjoaaGreat

namespace Go.Proofs.YtbijaloeilnjoaaGreat
open Go.RowKit

/-- what is covered by words that are free -/
def wcov (f : Int) (b : List Bool) (j : Int) : Prop := ∃ i : Nat, b[i]? = some true ∧ f + 8 * i ≤ j ∧ j < f + 8 * i + 8
def words (f : Int) (b : List Bool) : Nat → List Ext
 | 0 => []
 | k + 1 => words f b k ++ if b[k]? = some true then [(f + 8 * (k : Int), 8)] else []
def runs (f : Int) (b : List Bool) (k : Nat) : List Ext := joins (words f b k)

theorem words_mem {f : Int} {b : List Bool} {k : Nat} {x : Ext} (h : x ∈ words f b k) : ∃ i : Nat, i < k ∧ b[i]? = some true ∧ x = (f + 8 * (i : Int), 8) := by
 induction k with
 | zero => cases h
 | succ k ih =>
  rw [words, List.mem_append] at h
  rcases h with h | h
  ·obtain ⟨i, h1, h2⟩ := ih h
   exact ⟨i, by omega, h2⟩
  ·split at h
   ·rename_i hb
    simp at h
    exact ⟨k, by omega, hb, h⟩
   ·cases h
theorem mem_words {f : Int} {b : List Bool} {k i : Nat} (hi : i < k) (h : b[i]? = some true) : (f + 8 * (i : Int), (8 : Int)) ∈ words f b k := by
 induction k with
 | zero => omega
 | succ k ih =>
  rw [words, List.mem_append]
  by_cases hk : i = k
  ·subst hk
   rw [if_pos h]
   exact .inr (by simp)
  ·exact .inl (ih (by omega))
theorem words_fit {f e : Int} {b : List Bool} {k : Nat} (h8 : f % 8 = 0) (he : f + 8 * (k : Int) ≤ e) : (∀ x ∈ words f b k, Fits f e x) ∧ (words f b k).Pairwise fun x y => x.1 + x.2 ≤ y.1 := by
 constructor
 ·intro x hx
  obtain ⟨i, h1, _, rfl⟩ := words_mem hx
  refine ⟨?_, ?_, ?_, ?_, ?_⟩ <;> simp only <;> omega
 ·clear he
  induction k with
  | zero => exact List.Pairwise.nil
  | succ k ih =>
   rw [words, List.pairwise_append]
   refine ⟨ih, ?_, fun x hx y hy => ?_⟩
   ·split
    ·exact List.pairwise_singleton _ _
    ·exact List.Pairwise.nil
   ·obtain ⟨i, h1, _, rfl⟩ := words_mem hx
    split at hy
    ·simp at hy
     subst hy
     simp only
     omega
    ·cases hy
theorem words_cov {f : Int} {b : List Bool} (j : Int) : cov (words f b b.length) j ↔ wcov f b j := by
 constructor
 ·rintro ⟨x, hx, h1, h2⟩
  obtain ⟨i, _, hb, rfl⟩ := words_mem hx
  exact ⟨i, hb, h1, h2⟩
 ·rintro ⟨i, hb, h1, h2⟩
  exact ⟨_, mem_words (List.getElem?_eq_some_iff.1 hb).1 hb, h1, h2⟩
theorem runs_all {f e : Int} {b : List Bool} {l : List Ext} (h8 : f % 8 = 0) (he : f + 8 * (b.length : Int) = e) (hl : Canon f e l) (hc : ∀ j, cov l j ↔ wcov f b j) : runs f b b.length = l := by
 obtain ⟨h1, h2⟩ := words_fit (e := e) (b := b) (k := b.length) h8 (by omega)
 obtain ⟨k1, k2, _⟩ := joins_fit _ h1 h2
 refine k1.unique hl fun j => ?_
 rw [k2, words_cov, hc]
theorem runs_can {f e : Int} {b : List Bool} {k : Nat} (h8 : f % 8 = 0) (he : f + 8 * (k : Int) ≤ e) : Canon f e (runs f b k) ∧ ∀ y ∈ runs f b k, y.1 + y.2 ≤ f + 8 * (k : Int) := by
 obtain ⟨h1, h2⟩ := words_fit (e := e) (b := b) (k := k) h8 he
 obtain ⟨k1, k2, k3⟩ := joins_fit _ h1 h2
 exact ⟨k1, k3 _ fun x hx => by
  obtain ⟨i, hi, _, rfl⟩ := words_mem hx
  simp only
  omega⟩
theorem runs_no {f : Int} {b : List Bool} {k : Nat} (h : b[k]? = some false) : runs f b (k + 1) = runs f b k := by
 rw [runs, words, if_neg (by rw [h]; simp), List.append_nil]
 rfl
theorem runs_new {f : Int} {b : List Bool} {k : Nat} (h8 : f % 8 = 0) (h : b[k]? = some true) (h0 : k = 0 ∨ b[k - 1]? = some false) : runs f b (k + 1) = runs f b k ++ [(f + 8 * (k : Int), 8)] := by
 rw [runs, words, if_pos h, joins_snoc]
 show join1 (runs f b k) _ = _
 rcases h0 with h0 | h0
 ·subst h0
  rfl
 ·cases k with
  | zero => rfl
  | succ k =>
   rw [Nat.add_sub_cancel] at h0
   rw [runs_no h0]
   have hr := (runs_can (e := f + 8 * (k : Int)) (b := b) (k := k) h8 (Int.le_refl _)).2
   generalize runs f b k = o at *
   unfold join1
   rcases List.eq_nil_or_concat o with rfl | ⟨o, y, rfl⟩
   ·rfl
   ·rw [show o.concat y = o ++ [y] by simp] at *
    simp only [List.getLast?_append, List.getLast?_singleton, Option.some_or]
    rw [if_neg]
    have := hr y (by simp)
    omega
theorem join1_last (out : List Ext) (x : Ext) : ∃ o y, join1 out x = o ++ [y] ∧ y.1 + y.2 = x.1 + x.2 := by
 unfold join1
 split
 ·exact ⟨[], x, rfl, rfl⟩
 ·rename_i y _
  split
  ·exact ⟨_, _, rfl, by simp only; omega⟩
  ·exact ⟨_, _, rfl, rfl⟩
theorem runs_old {f : Int} {b : List Bool} {k : Nat} (h : b[k]? = some true) (h0 : k ≠ 0) (h1 : b[k - 1]? = some true) : ∃ o y, runs f b k = o ++ [y] ∧ runs f b (k + 1) = o ++ [(y.1, y.2 + 8)] := by
 cases k with
 | zero => omega
 | succ k =>
  rw [Nat.add_sub_cancel] at h1
  have e1 : runs f b (k + 1) = join1 (runs f b k) (f + 8 * (k : Int), 8) := by rw [runs, words, if_pos h1, joins_snoc]; rfl
  have e2 : runs f b (k + 1 + 1) = join1 (runs f b (k + 1)) (f + 8 * ((k + 1 : Nat) : Int), 8) := by rw [runs, words, if_pos h, joins_snoc]; rfl
  obtain ⟨o, y, h2, h3⟩ := join1_last (runs f b k) (f + 8 * (k : Int), 8)
  rw [h2] at e1
  refine ⟨o, y, e1, ?_⟩
  rw [e2, e1]
  unfold join1
  simp only [List.getLast?_append, List.getLast?_singleton, Option.some_or, List.dropLast_concat]
  rw [if_pos]
  simp only at h3
  omega

/-- words made free, or not -/
def setB (b : List Bool) (i : Nat) (v : Bool) : Nat → List Bool
 | 0 => b
 | m + 1 => (setB b i v m).set (i + m) v
theorem setB_len (b : List Bool) (i : Nat) (v : Bool) (m : Nat) : (setB b i v m).length = b.length := by
 induction m with
 | zero => rfl
 | succ m ih => rw [setB, List.length_set, ih]
theorem setB_get (b : List Bool) (i : Nat) (v : Bool) (m j : Nat) (hm : i + m ≤ b.length) : (setB b i v m)[j]? = if i ≤ j ∧ j < i + m then some v else b[j]? := by
 induction m with
 | zero => rw [setB, if_neg (by omega)]
 | succ m ih =>
  rw [setB, List.getElem?_set, setB_len, ih (by omega)]
  by_cases h : i + m = j
  ·rw [if_pos h, if_pos (by omega), if_pos (by omega)]
  ·rw [if_neg h]
   by_cases h2 : i ≤ j ∧ j < i + m
   ·rw [if_pos h2, if_pos (by omega)]
   ·rw [if_neg h2, if_neg (by omega)]

/-- a row of extents and a row of words that tell the same -/
structure Twin (f e : Int) (l : List Ext) (b : List Bool) : Prop where
 can : Canon f e l
 f8 : f % 8 = 0
 len : f + 8 * (b.length : Int) = e
 cov : ∀ j, cov l j ↔ wcov f b j

theorem Twin.word {f e : Int} {l : List Ext} {b : List Bool} (h : Twin f e l b) {i : Nat} {v : Bool} (hb : b[i]? = some v) (j : Int) (h1 : f + 8 * (i : Int) ≤ j) (h2 : j < f + 8 * (i : Int) + 8) : Go.Proofs.YtbijaloeilnjoaaGreat.cov l j ↔ v = true := by
 rw [h.cov]
 constructor
 ·rintro ⟨k, hk, k1, k2⟩
  obtain rfl : k = i := by omega
  rw [hb] at hk
  injection hk
 ·rintro rfl
  exact ⟨i, hb, h1, h2⟩
theorem wcov_set {f a n : Int} {b : List Bool} {v : Bool} {i m : Nat} (h8 : f % 8 = 0) (ha : a = f + 8 * (i : Int)) (hn : n = 8 * (m : Int)) (hm : i + m ≤ b.length) (j : Int) :
  wcov f (setB b i v m) j ↔ if a ≤ j ∧ j < a + n then v = true else wcov f b j := by
 unfold wcov
 constructor
 ·rintro ⟨k, hk, k1, k2⟩
  rw [setB_get _ _ _ _ _ hm] at hk
  split at hk
  ·rw [if_pos (by omega)]
   injection hk
  ·rw [if_neg (by omega)]
   exact ⟨k, hk, k1, k2⟩
 ·split
  ·rename_i hj
   rintro rfl
   obtain ⟨k, hk⟩ : ∃ k : Nat, (k : Int) = (j - f) / 8 := ⟨((j - f) / 8).toNat, by omega⟩
   refine ⟨k, ?_, by omega, by omega⟩
   rw [setB_get _ _ _ _ _ hm, if_pos (by omega)]
  ·rintro ⟨k, hk, k1, k2⟩
   refine ⟨k, ?_, k1, k2⟩
   rw [setB_get _ _ _ _ _ hm, if_neg (by omega)]
   exact hk

theorem Twin.carve {f e n : Int} {l : List Ext} {b : List Bool} (h : Twin f e l b) (hc : (carveF n l).2.1 = true) : ∃ i m : Nat, (carveF n l).1 = f + 8 * (i : Int) ∧ n = 8 * (m : Int) ∧ i + m ≤ b.length ∧ Twin f e (carveF n l).2.2 (setB b i false m) := by
 obtain ⟨n1, n8, h3, h4, _, h6, h7⟩ := carve_got h.can hc
 obtain ⟨g1, g2, g3, g4, g5⟩ := h4
 simp only at g1 g2 g3 g4 g5
 have := h.f8
 have := h.len
 obtain ⟨i, hi⟩ : ∃ i : Nat, (carveF n l).1 = f + 8 * (i : Int) := ⟨(((carveF n l).1 - f) / 8).toNat, by omega⟩
 obtain ⟨m, hm⟩ : ∃ m : Nat, n = 8 * (m : Int) := ⟨(n / 8).toNat, by omega⟩
 refine ⟨i, m, hi, hm, by omega, h3, h.f8, by rw [setB_len]; exact h.len, fun j => ?_⟩
 rw [wcov_set h.f8 hi hm (by omega), ← h.cov]
 split
 ·rename_i hj
  simp only [Bool.false_eq_true, iff_false]
  exact fun hcov => h7 j hcov hj
 ·rename_i hj
  constructor
  ·exact fun hcov => (h6 j).2 (.inl hcov)
  ·intro hcov
   rcases (h6 j).1 hcov with hcov | hcov
   ·exact hcov
   ·exact absurd hcov hj

theorem Twin.give {f e a n : Int} {l : List Ext} {b : List Bool} (h : Twin f e l b) (hb : giveBad f e a n = false) : ∃ i m : Nat, a = f + 8 * (i : Int) ∧ n = 8 * (m : Int) ∧ i + m ≤ b.length ∧
  ((∀ k, i ≤ k → k < i + m → b[k]? = some false) → giveF f e a n l = (0, joins (giveAll a n l)) ∧ Twin f e (joins (giveAll a n l)) (setB b i true m)) ∧
  ((∃ k, i ≤ k ∧ k < i + m ∧ b[k]? = some true) → giveF f e a n l = (1, l)) := by
 have hok := hb
 unfold giveBad at hok
 simp only [Bool.or_eq_false_iff, decide_eq_false_iff_not] at hok
 have := h.f8
 have := h.len
 obtain ⟨i, hi⟩ : ∃ i : Nat, a = f + 8 * (i : Int) := ⟨((a - f) / 8).toNat, by omega⟩
 obtain ⟨m, hm⟩ : ∃ m : Nat, n = 8 * (m : Int) := ⟨(n / 8).toNat, by omega⟩
 refine ⟨i, m, hi, hm, by omega, fun hfree => ?_, fun ⟨k, k1, k2, hk⟩ => ?_⟩
 ·obtain ⟨h1, h2, h3⟩ := give_got (a := a) (n := n) h.can ⟨by simp only; omega, by simp only; omega, by simp only; omega, by simp only; omega, by simp only; omega⟩ (fun j j1 j2 hc => by
   obtain ⟨k, hk, k1, k2⟩ := (h.cov j).1 hc
   rw [hfree k (by omega) (by omega)] at hk
   cases hk)
  refine ⟨h1, h2, h.f8, by rw [setB_len]; exact h.len, fun j => ?_⟩
  rw [h3, wcov_set h.f8 hi hm (by omega), h.cov]
  split
  ·rename_i hj
   simp [hj]
  ·rename_i hj
   simp [hj]
 ·have hmt : giveMeets a n l = true := (give_meets h.can (by omega)).2 ⟨f + 8 * (k : Int), by omega, by omega, (h.cov _).2 ⟨k, hk, by omega, by omega⟩⟩
  unfold giveF
  rw [hmt, Bool.or_true]
  rfl

theorem Twin.new {f n : Int} {m : Nat} (h8 : f % 8 = 0) (hm : n = 8 * (m : Int)) : Twin f (f + n) (oneExt f n) (List.replicate m true) := by
 unfold oneExt
 split
 ·rename_i h0
  obtain rfl : m = 0 := by omega
  refine ⟨trivial, h8, by simp; omega, fun j => ?_⟩
  constructor
  ·exact fun h => absurd h (cov_nil j)
  ·rintro ⟨i, hi, _⟩
   simp at hi
 ·rename_i h0
  refine ⟨⟨by simp, by simp only; omega, by simpa using h8, by simp only; omega, by simp, trivial⟩, h8, by simp; omega, fun j => ?_⟩
  rw [cov_cons]
  simp only [cov_nil, or_false]
  constructor
  ·intro hj
   exact ⟨((j - f) / 8).toNat, by rw [List.getElem?_replicate, if_pos (by omega)], by omega, by omega⟩
  ·rintro ⟨i, hi, i1, i2⟩
   rw [List.getElem?_replicate] at hi
   split at hi
   ·omega
   ·cases hi
end Go.Proofs.YtbijaloeilnjoaaGreat
