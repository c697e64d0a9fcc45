/- Layer 17: what the laws' walks share. -/
import Derived.Test.YtconieenkeajiaaEnterE
import Derived.Test.YtconieenkeajiaaSame
namespace Go.Proofs.Ytconieenkeajiaa
open Go.RowKit
set_option linter.unusedVariables false
set_option linter.unusedSimpArgs false

theorem runIn_plain {w : World} {r : Rn} {A : Option Addr} {k : Nat} {l : List Ent} (hc : r.chain = ⟨A, l.length, k⟩) (hl : l.length ≤ 1048576) (he : Ents w A l) (h1 : r.list = noS) (h2 : r.said = noS) (h3 : r.asaid = noS) : RunIn w r l [] [] [] :=
  ⟨by rw [hc], hl, by rw [hc]; exact he, by rw [h1]; rfl, by simp, Cells.nil, by rw [h2]; rfl, by simp, Cells.nil, by rw [h3]; rfl, by simp, Cells.nil⟩
theorem laid_len (c1 c2 c3 : Ctl) : (laidWs c1 c2 c3).length = 40 := by simp [laidWs, lay1, new40]
theorem laid_0 (c1 c2 c3 : Ctl) : (laidWs c1 c2 c3)[0]? = some (word immC) := (lay_get _ _ _ _ (by decide)).trans ((lay_get _ _ _ _ (by decide)).trans ((lay_get _ _ _ _ (by decide)).trans new_0))
theorem lay_self (ws : List Int) (k : Nat) (c : Ctl) (h : k < ws.length) : (lay1 ws k c)[k]? = some (word (fit c)) := by unfold lay1; rw [List.getElem?_set, if_pos rfl, if_pos h]
theorem laid_8 (c1 c2 c3 : Ctl) : (laidWs c1 c2 c3)[8]? = some (word (fit c1)) := (lay_get _ _ _ _ (by decide)).trans ((lay_get _ _ _ _ (by decide)).trans (lay_self _ _ _ (by rw [new40]; decide)))
theorem laid_16 (c1 c2 c3 : Ctl) : (laidWs c1 c2 c3)[16]? = some (word (fit c2)) := (lay_get _ _ _ _ (by decide)).trans (lay_self _ _ _ (by simp [lay1, new40]))
theorem laid_24 (c1 c2 c3 : Ctl) : (laidWs c1 c2 c3)[24]? = some (word (fit c3)) := lay_self _ _ _ (by simp [lay1, new40])
theorem same_self (r : Rn) (A : Option Addr) (k : Nat) (l : List Ent) (w : World) (hc : r.chain = ⟨A, l.length, k⟩) (hl : l.length ≤ 1048576) (he : Ents w A l) (h1 : r.list = noS) (h2 : r.said = noS) (h3 : r.asaid = noS) :
    Calls Try.prog 20 #[r.v, r.v] w fun e w' => e = .returned (.bool true) ∧ Below w.heap.size w w' :=
  same_run r r.chain r.list r.said r.asaid l [] [] [] w (runIn_plain hc hl he h1 h2 h3) (runIn_plain hc hl he h1 h2 h3)

end Go.Proofs.Ytconieenkeajiaa
