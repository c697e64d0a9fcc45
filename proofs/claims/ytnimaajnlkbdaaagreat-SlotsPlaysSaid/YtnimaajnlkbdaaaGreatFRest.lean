/- Layer 14: what is refused; a call that is begun, stepped; calls that are the same. -/
import Derived.Test.YtnimaajnlkbdaaaGreatFLaw
import Derived.Test.YtnimaajnlkbdaaaGreatSame
namespace Go.Proofs.YtnimaajnlkbdaaaGreat
open Go.RowKit
set_option linter.unusedVariables false
set_option linter.unusedSimpArgs false

theorem runIn_plain {w : World} {r : Rn} {A : Option Addr} {k : Nat} {l : List Ent} (hc : r.chain = ⟨A, l.length, k⟩) (hl : l.length ≤ 1048576) (he : Ents w A l) (h1 : r.list = noS) (h2 : r.said = noS) (h3 : r.asaid = noS) : RunIn w r l [] [] [] :=
 ⟨by rw [hc], hl, by rw [hc]; exact he, by rw [h1]; rfl, by simp, Cells.nil, by rw [h2]; rfl, by simp, Cells.nil, by rw [h3]; rfl, by simp, Cells.nil⟩
theorem same_self (r : Rn) (A : Option Addr) (k : Nat) (l : List Ent) (w : World) (hc : r.chain = ⟨A, l.length, k⟩) (hl : l.length ≤ 1048576) (he : Ents w A l) (h1 : r.list = noS) (h2 : r.said = noS) (h3 : r.asaid = noS) :
  Calls Tryz.prog 16 #[r.v, r.v] w fun e w' => e = .returned (.bool true) ∧ Below w.heap.size w w' :=
 same_run r r.chain r.list r.said r.asaid l [] [] [] w (runIn_plain hc hl he h1 h2 h3) (runIn_plain hc hl he h1 h2 h3)




/-- a call that is begun, stepped -/
theorem fstep14_any (B p b g : Nat) (q : Option Nat) (f e : Int) (S : Sco) (ws : List Int) (s t i h : Int) (mk : Bool) (n : Int) (ch : Sl) (w : World) (H : PlanOk s t i h) (hF : Fs B w p b g q f e S ws) (hS : (S.l.length : Int) = s) (hmk : mk = true) :
  Calls Tryz.prog 27 #[.agg #[.int .i64 s, .int .i64 t, .int .i64 i, .int .i64 h], .pointer (some ⟨p, 0, none⟩), .pointer (some ⟨g, 0, none⟩), (begR s mk n ch).v] w fun y w' => ∃ q', y = .returned (.tuple #[(run14 f e s mk n S ch).v, .int .i64 0]) ∧ Fs B w' p b g q' f e (does14 f e mk n S) (words14 mk n S ws) ∧ NewQ w q q' ∧ Keep (FsT b g q) w w' := by
 subst hmk
 refine (fstepC_any B p b g q f e S ws s t i h (begA true n) _ w H hF hS (begA_in n) (by rw [begR_make]) (by rw [begR_make]) (by rw [begR_make]) (by rw [begR_make]) (by rw [begR_make]; simp [begA])).mono ?_
 rintro y w' ⟨rfl, h1, h2⟩
 exact ⟨q, rfl, h1, NewQ.refl, h2⟩

end Go.Proofs.YtnimaajnlkbdaaaGreat
