/- Layer 18: what the last one who leaves has come to, for the laws. -/
import Derived.Test.YtbijaloeilnjoaaGreatLJ
import Derived.Test.YtbijaloeilnjoaaGreatLO
namespace Go.Proofs.YtbijaloeilnjoaaGreat
open Go.RowKit
set_option linter.unusedVariables false
set_option linter.unusedSimpArgs false

theorem FtsAt.fins {B : Nat} {w : World} {A : Option Addr} {c : Nat} {ls : List (List Fo)} {fl : List FSl} (h : FtsAt B w A c ls fl) : FinsAt w A fl := by
  obtain ⟨A9, c9, e9, -, -, h9⟩ := own_slice h.own
  injection e9 with e1 e2 e3
  subst e1
  exact ⟨h9, fun x hx => (h.at_ x hx).e⟩
theorem FtsAt.off {B b : Nat} {w : World} {A : Option Addr} {c : Nat} {ls : List (List Fo)} {fl : List FSl} (h : FtsAt B w A c ls fl) (hb : w.heap.size ≤ b) : FinsOff A fl b :=
  ⟨fun z hz => by have := own_ltF h.own z.block (by rw [hz]; rfl); omega, fun x hx z hz => by have := ((h.at_ x hx).lo z hz).2; omega⟩
/-- the last one who leaves the scope that was laid -/
theorem alIn_laid {fs : List (List Fo)} {fs0 : List (List Fo)} (l : List Oj) (h : fs = fitL fs0) : AlIn fs (obsOf l) (c18 1) ⟨3, 0, 0, 4⟩ := by
  subst h
  exact ⟨fitL_ops _, fitL_ok _, fitL_len _, obsOf_ok l, by rw [obsOf_len]; omega, obsOf_used l, by decide, by kernel_rfl, ⟨by decide, rfl⟩⟩
/-- what it is told, and the words then -/
structure Ended (fs : List (List Fo)) (obs : List Ob) (c1 : Ctl) (T : List Nat) (w : World) (p b : Nat) (R : Rn) : Prop where
  dn : R.done = true
  pt : R.point = true
  co : R.code = if (laFa fs obs).held = true then 25 else 0
  an : R.an = ((todoR fs obs).length : Int)
  sa : SlAt' w b T R.asaid (laFa fs obs).said
  arn : Arn w p b (wsOf c1 (laEnd fs obs))
theorem AlAt.ended {fs : List (List Fo)} {obs : List Ob} {c0 c1 : Ctl} {ch : Sl} {T : List Nat} {w : World} {p b : Nat} {R : Rn} (I : AlIn fs obs c0 c1) (H : AlAt fs obs c0 c1 ch T w p b (2 + laN fs obs) R) : Ended fs obs c1 T w p b R := by
  have h3 := (laN_bd I.f8 obs).1
  rcases H with ⟨h, _⟩ | ⟨h, _⟩ | ⟨k, _, _, h, hk, _⟩ | ⟨_, he, hA⟩
  · omega
  · omega
  · omega
  · obtain ⟨ls, sd, sa, e, h1, h2, h4⟩ := he
    subst e
    refine ⟨rfl, rfl, ?_, rfl, h4, hA⟩
    show (if (if (laFa fs obs).held = true then (22 : Int) else 26) = 22 then (25 : Int) else 0) = _
    cases (laFa fs obs).held <;> simp
end Go.Proofs.YtbijaloeilnjoaaGreat
