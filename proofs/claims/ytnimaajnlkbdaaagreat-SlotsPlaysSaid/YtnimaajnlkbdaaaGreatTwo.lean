/- Two arenas beside each other: the program's, and the document's. No program's function in sight. -/
import Derived.Test.YtnimaajnlkbdaaaGreatSteps
import Derived.Test.YtnimaajnlkbdaaaGreatAll
namespace Go.Proofs.YtnimaajnlkbdaaaGreat
open Go.RowKit
set_option linter.unusedVariables false
set_option linter.unusedSimpArgs false

structure TwoW (B : Nat) (w : World) (p b X q d : Nat) (s t i h : Int) (ws wx : List Int) : Prop where
 a : Arn w p b ws
 x : RAll w X q d s t i h wx
 low : B ≤ p ∧ B ≤ b ∧ B ≤ X ∧ B ≤ q ∧ B ≤ d
 ne : X ≠ b ∧ q ≠ b ∧ d ≠ b ∧ p ≠ d
section
variable {B p b X q d : Nat} {s t i h : Int} {ws wx ws' wx' : List Int} {w w' a : World} {T : List Nat}
theorem TwoW.below (H : TwoW B w p b X q d s t i h ws wx) (hb : Below w.heap.size w w') : TwoW B w' p b X q d s t i h ws wx := { H with a := H.a.below hb, x := H.x.below hb }
theorem TwoW.drew (H : TwoW B w p b X q d s t i h ws wx) : TwoW B w.drew p b X q d s t i h ws wx := { H with a := H.a.drew, x := H.x.drew }
theorem TwoW.kept (H : TwoW B w p b X q d s t i h ws wx) (k : Keep T w w') (hT : ∀ j ∈ T, j ∉ [p, b, X, q, d]) : TwoW B w' p b X q d s t i h ws wx :=
 { H with a := H.a.kept k (fun e => hT _ e (by simp)) (fun e => hT _ e (by simp)), x := H.x.kept k (fun e => hT _ e (by simp)) (fun e => hT _ e (by simp)) (fun e => hT _ e (by simp)) }
theorem TwoW.onA (H : TwoW B w p b X q d s t i h ws wx) (ha : Arn w' p b ws') (k : Keep [b] w w') : TwoW B w' p b X q d s t i h ws' wx :=
 { H with a := ha, x := H.x.kept k (by simpa using H.ne.1) (by simpa using H.ne.2.1) (by simpa using H.ne.2.2.1) }
theorem TwoW.onX (H : TwoW B w p b X q d s t i h ws wx) (hx : RAll w' X q d s t i h wx') (k : Keep [d] w w') : TwoW B w' p b X q d s t i h ws wx' :=
 { H with x := hx, a := H.a.kept k (by simpa using H.ne.2.2.2) (by simpa using fun e => H.ne.2.2.1 e.symm) }
theorem TwoW.lt (H : TwoW B w p b X q d s t i h ws wx) : ∀ j ∈ [p, b, X, q, d], j < w.heap.size := by
 intro j hj
 have h1 := lt_of_heap H.a.box
 have h2 := lt_of_heap H.a.row
 have h3 : X < w.heap.size := by obtain ⟨gp, h⟩ := H.x.box; exact lt_of_heap h
 have h4 := lt_of_heap H.x.arn.box
 have h5 := lt_of_heap H.x.arn.row
 simp at hj
 rcases hj with rfl | rfl | rfl | rfl | rfl <;> assumption
theorem TwoW.fresh (H : TwoW B w p b X q d s t i h ws wx) {g : Nat} (hg : w.heap.size ≤ g) : g ∉ [p, b, X, q, d] := fun hm => by have := H.lt g hm; omega
theorem TwoW.elder (H : TwoW B w p b X q d s t i h ws wx) {g : Nat} (hg : g < B) : g ∉ [p, b, X, q, d] := by
 have := H.low
 simp
 omega
theorem TwoW.under (H : TwoW B w p b X q d s t i h ws wx) (hb : Below B a w) (k : Keep T w w') (hT : ∀ j ∈ T, j = b ∨ j = d) : Below B a w' :=
 Keep.under hb k (by have := H.low; have := H.lt p (by simp); omega) (fun j hj => by have := H.low; rcases hT j hj with rfl | rfl <;> omega)
theorem TwoW.nb (H : TwoW B w p b X q d s t i h ws wx) {g : Nat} (hg : g ∉ [p, b, X, q, d]) : g ≠ b ∧ g ≠ d := by simp at hg; omega
end
end Go.Proofs.YtnimaajnlkbdaaaGreat
