/- Two grounds beside each other in memory. -/
import Derived.Test.YtpkohmbdmbkcbaaGroundPlainC
import Derived.Test.YtpkohmbdmbkcbaaGroundOpen
namespace Go.Proofs.Ytpkohmbdmbkcbaa
open Go.RowKit

theorem keep_upto {N : Nat} {w w' : World} (hb : Below N w w') : Keep ((List.range w.heap.size).filter fun k => decide (N ≤ k)) w w' :=
  ⟨hb.os, hb.tape, hb.output, hb.size, fun k hk hn => hb.block k (Nat.lt_of_not_le fun h => hn (by simp; exact ⟨hk, h⟩))⟩
theorem Gr.upto {N B p : Nat} {w w' : World} {f e : Int} {l : List Ext} {q : Option Nat} (h : Gr B w p f e l q) (hb : Below N w w') (h1 : p < N) (h2 : ∀ i, q = some i → i < N) : Gr B w' p f e l q :=
  h.kept (keep_upto hb) (by simp; omega) (fun i hi => by have := h2 i hi; simp; omega)

structure TwoG (B : Nat) (w : World) (f e : Int) (p1 p2 : Nat) (q1 q2 : Option Nat) (l m : List Ext) : Prop where
  g1 : Gr B w p1 f e l q1
  g2 : Gr B w p2 f e m q2
  pp : p1 ≠ p2
  qp : q1 ≠ some p2
  pq : q2 ≠ some p1
  qq : ∀ i, q1 = some i → q2 ≠ some i

section
variable {B p1 p2 : Nat} {w w' : World} {f e : Int} {q1 q2 : Option Nat} {l m l' m' : List Ext}
theorem TwoG.below (h : TwoG B w f e p1 p2 q1 q2 l m) (hb : Below w.heap.size w w') : TwoG B w' f e p1 p2 q1 q2 l m :=
  { h with g1 := h.g1.below hb, g2 := h.g2.below hb }
theorem TwoG.upto {N : Nat} (h : TwoG B w f e p1 p2 q1 q2 l m) (hb : Below N w w') (h1 : p1 < N) (h2 : ∀ i, q1 = some i → i < N) (h3 : p2 < N) (h4 : ∀ i, q2 = some i → i < N) : TwoG B w' f e p1 p2 q1 q2 l m :=
  { h with g1 := h.g1.upto hb h1 h2, g2 := h.g2.upto hb h3 h4 }
theorem TwoG.swap (h : TwoG B w f e p1 p2 q1 q2 l m) : TwoG B w f e p2 p1 q2 q1 m l :=
  ⟨h.g2, h.g1, fun e => h.pp e.symm, h.pq, h.qp, fun i h1 h2 => h.qq i h2 h1⟩
theorem TwoG.carve1 (h : TwoG B w f e p1 p2 q1 q2 l m) (hg : Gr B w' p1 f e l' q1) (k : Keep (p1 :: q1.toList) w w') : TwoG B w' f e p1 p2 q1 q2 l' m :=
  { h with g1 := hg, g2 := h.g2.kept k (by
      intro hm
      rcases List.mem_cons.1 hm with hm | hm
      · exact h.pp hm.symm
      · exact h.qp (by simpa using hm)) (by
      intro i hi hm
      rcases List.mem_cons.1 hm with hm | hm
      · subst hm
        exact h.pq hi
      · exact h.qq i (by simpa using hm) hi) }
theorem TwoG.give1 {q1' : Option Nat} (h : TwoG B w f e p1 p2 q1 q2 l m) (hg : Gr B w' p1 f e l' q1') (hq : ∀ i, q1' = some i → q1 = some i ∨ w.heap.size ≤ i) (k : Keep [p1] w w') : TwoG B w' f e p1 p2 q1' q2 l' m := by
  refine ⟨hg, h.g2.kept k (by simp; exact fun e => h.pp e.symm) (fun i hi hm => ?_), h.pp, fun e => ?_, h.pq, fun i h1 h2 => ?_⟩
  · simp at hm
    subst hm
    exact h.pq hi
  · rcases hq _ e with h1 | h1
    · exact h.qp h1
    · have := h.g2.lt.1
      omega
  · rcases hq _ h1 with h3 | h3
    · exact h.qq i h3 h2
    · have := (h.g2.lt.2 i h2).1
      omega
theorem TwoG.carve2 (h : TwoG B w f e p1 p2 q1 q2 l m) (hg : Gr B w' p2 f e m' q2) (k : Keep (p2 :: q2.toList) w w') : TwoG B w' f e p1 p2 q1 q2 l m' := (h.swap.carve1 hg k).swap
theorem TwoG.give2 {q2' : Option Nat} (h : TwoG B w f e p1 p2 q1 q2 l m) (hg : Gr B w' p2 f e m' q2') (hq : ∀ i, q2' = some i → q2 = some i ∨ w.heap.size ≤ i) (k : Keep [p2] w w') : TwoG B w' f e p1 p2 q1 q2' l m' := (h.swap.give1 hg hq k).swap
theorem TwoG.under1 {W : World} (h : TwoG B w f e p1 p2 q1 q2 l m) (hb : Below W.heap.size W w) (hB : W.heap.size ≤ B) (k : Keep (p1 :: q1.toList) w w') : Below W.heap.size W w' :=
  Keep.under hb k hb.size (fun i hi => Nat.le_trans hB (h.g1.blocks i hi))
theorem TwoG.under2 {W : World} (h : TwoG B w f e p1 p2 q1 q2 l m) (hb : Below W.heap.size W w) (hB : W.heap.size ≤ B) (k : Keep (p2 :: q2.toList) w w') : Below W.heap.size W w' := h.swap.under1 hb hB k
end

/-- of two grounds that are made one behind the other -/
theorem two_of {B p1 p2 : Nat} {w w' : World} {f e : Int} {q1 q2 : Option Nat} {l m : List Ext} (h1 : Gr B w p1 f e l q1) (h2 : Gr w.heap.size w' p2 f e m q2) (hb : Below w.heap.size w w') (hB : B ≤ w.heap.size) : TwoG B w' f e p1 p2 q1 q2 l m := by
  have z1 := h1.lt
  have z2 := h2.lt
  have z3 := h2.low
  refine ⟨h1.below hb, ?_, by omega, fun e => ?_, fun e => ?_, fun i a b => ?_⟩
  · obtain ⟨A, c, k1, k2, k3⟩ := h2.mem
    exact { h2 with mem := ⟨A, c, k1, own_mono k2 hB, k3⟩, low := by omega }
  · have := (z1.2 p2 e).1
    omega
  · have := (z2.2 p1 e).2
    omega
  · have := (z1.2 i a).1
    have := (z2.2 i b).2
    omega

end Go.Proofs.Ytpkohmbdmbkcbaa
