/- Entries on their way, four at a time. -/
import Derived.Test.YtconieenkeajiaaArr4
import Derived.Test.YtconieenkeajiaaREnter
import Derived.Test.YtconieenkeajiaaEnterZ
namespace Go.Proofs.Ytconieenkeajiaa
open Go.RowKit
set_option linter.unusedVariables false
set_option linter.unusedSimpArgs false

/-- words of an arena whose scopes are right -/
structure Okw (ws : List Int) : Prop where
  len : ws.length = 40
  c : ∀ s : Nat, s < 4 → ∃ c, Right c ∧ ws[8 * s]? = some (word c)
theorem Okw.set {ws : List Int} (h : Okw ws) (s : Nat) (hs : s < 4) {c : Ctl} (hc : Right c) : Okw (ws.set (8 * s) (word c)) := by
  refine ⟨by simpa using h.len, fun t ht => ?_⟩
  by_cases e : s = t
  · subst e
    exact ⟨c, hc, by rw [List.getElem?_set, if_pos rfl, if_pos (by rw [h.len]; omega)]⟩
  · obtain ⟨d, hd, hw⟩ := h.c t ht
    exact ⟨d, hd, by rw [List.getElem?_set, if_neg (by omega)]; exact hw⟩
theorem okw_laid (c1 c2 c3 : Ctl) : Okw (laidWs c1 c2 c3) := by
  refine ⟨laid_len _ _ _, fun s hs => ?_⟩
  obtain rfl | rfl | rfl | rfl : s = 0 ∨ s = 1 ∨ s = 2 ∨ s = 3 := by omega
  · exact ⟨_, immC_right, laid_0 _ _ _⟩
  · exact ⟨_, fit_right _, laid_8 _ _ _⟩
  · exact ⟨_, fit_right _, laid_16 _ _ _⟩
  · exact ⟨_, fit_right _, laid_24 _ _ _⟩
/-- a run: done, or an entry on its way; its entries lie in none of the blocks F -/
def RunOk (w : World) (F : List Nat) (r : Rn) : Prop :=
  r.done = true ∨ ∃ (s a : Int) (cA : Option Addr) (kc : Nat), (1 ≤ s ∧ s ≤ 3) ∧ (0 ≤ a ∧ a ≤ 3) ∧ Ents w cA [(a, true)] ∧ (∀ z, 0 < [(a, true)].length → cA = some z → z.block ∉ F) ∧
    (r = callRn s a ⟨cA, 1, kc⟩ ∨ ∃ x c, Right c ∧ r = wayR s a ⟨cA, 1, kc⟩ x (word c))
theorem RunOk.below {w w' : World} {F : List Nat} {r : Rn} (h : RunOk w F r) (hb : Below w.heap.size w w') : RunOk w' F r := by
  rcases h with h | ⟨s, a, cA, kc, h1, h2, h3, h4, h5⟩
  · exact .inl h
  · exact .inr ⟨s, a, cA, kc, h1, h2, Ents.below h3 hb, h4, h5⟩
theorem RunOk.kept {w w' : World} {F S : List Nat} {r : Rn} (h : RunOk w F r) (k : Keep S w w') (hs : ∀ i ∈ S, i ∈ F) : RunOk w' F r := by
  rcases h with h | ⟨s, a, cA, kc, h1, h2, h3, h4, h5⟩
  · exact .inl h
  · exact .inr ⟨s, a, cA, kc, h1, h2, ents_kept h3 k (fun z h0 hz hm => h4 z h0 hz (hs _ hm)), h4, h5⟩
def AllOk (w : World) (F : List Nat) (l : List Rn) : Prop := l.length = 4 ∧ ∀ r ∈ l, RunOk w F r
theorem AllOk.below {w w' : World} {F : List Nat} {l : List Rn} (h : AllOk w F l) (hb : Below w.heap.size w w') : AllOk w' F l := ⟨h.1, fun r hr => (h.2 r hr).below hb⟩
theorem AllOk.kept {w w' : World} {F S : List Nat} {l : List Rn} (h : AllOk w F l) (k : Keep S w w') (hs : ∀ i ∈ S, i ∈ F) : AllOk w' F l := ⟨h.1, fun r hr => (h.2 r hr).kept k hs⟩
theorem AllOk.set {w : World} {F : List Nat} {l : List Rn} (h : AllOk w F l) (k : Nat) {r : Rn} (hr : RunOk w F r) : AllOk w F (l.set k r) := by
  refine ⟨by simpa using h.1, fun x hx => ?_⟩
  rcases List.mem_or_eq_of_mem_set hx with h1 | h1
  · exact h.2 x h1
  · rw [h1]; exact hr


theorem stepX_13 {c : Ctl} {r : Rn} (h : r.pc = 13) : stepX c r = word c := by unfold stepX; rw [if_neg (by rw [h]; simp)]
theorem set_row' {P : World → Prop} (W : World) (g : Nat) (cs cs' : Array Value) (t : TypeId) (h : W.heap[g]? = some (.cells cs t (0, 0)))
    (K : ∀ Y, Y.heap[g]? = some (.cells cs' t (0, 0)) → Keep [g] W Y → P Y) : P (W.setRow g cs') :=
  K _ (setRow_heap _ _ _ _ _ _ h) ((Keep.refl [g] W).setRow (g := g) (.inl (by simp)) cs')
/-- an entry on its way -/
def Way (r : Rn) (s a : Int) (ch : Sl) : Prop := r = callRn s a ch ∨ ∃ x c, Right c ∧ r = wayR s a ch x (word c)
/-- what is known of a run that was stepped -/
structure Aft (r : Rn) (s : Int) (ch : Sl) : Prop where
  ca : r.c.a = s
  said : r.said = noS
  list : r.list = noS
  asaid : r.asaid = noS
  chain : r.chain = ch
  pc : r.pc = 13 ∨ r.pc = 14
  next : 0 ≤ r.next ∧ r.next < 18446744073709551616
theorem way_aft {r : Rn} {s a : Int} {ch : Sl} (h : Way r s a ch) : Aft r s ch ∧ r.done = false := by
  rcases h with rfl | ⟨x, c, hc, rfl⟩
  · exact ⟨⟨rfl, rfl, rfl, rfl, rfl, .inl rfl, by simp [callRn]⟩, rfl⟩
  · exact ⟨⟨rfl, rfl, rfl, rfl, rfl, .inr rfl, word_bd hc⟩, rfl⟩
theorem way_stepX {r : Rn} {s a : Int} {ch : Sl} {c : Ctl} (h : Way r s a ch) (hc : Right c) : ∃ d, Right d ∧ stepX c r = word d := by
  rcases h with rfl | ⟨x, c', hc', rfl⟩
  · exact ⟨c, hc, stepX_13 rfl⟩
  · unfold stepX
    split
    · exact ⟨c', hc', rfl⟩
    · exact ⟨c, hc, rfl⟩
theorem way_stepR {r : Rn} {s a : Int} {ch : Sl} {c : Ctl} (h : Way r s a ch) (hc : Right c) : Aft (stepR c r) s ch ∧ ((stepR c r).done = true ∨ Way (stepR c r) s a ch) := by
  rcases h with rfl | ⟨x, c', hc', rfl⟩
  · show Aft (lookN c s a ch) s ch ∧ ((lookN c s a ch).done = true ∨ Way (lookN c s a ch) s a ch)
    unfold lookN
    split
    · exact ⟨(way_aft (.inl rfl : Way _ s a ch)).1, .inr (.inl rfl)⟩
    · split
      · rename_i h1
        have hd : Right (enter c a).1 := enter_right (show enter c a = ((enter c a).1, 0) by rw [← h1])
        have hw : Way (wayR s a ch (word c) (word (enter c a).1)) s a ch := .inr ⟨_, _, hd, rfl⟩
        exact ⟨(way_aft hw).1, .inr hw⟩
      · exact ⟨⟨rfl, rfl, rfl, rfl, rfl, .inl rfl, by simp [toldR, callRn]⟩, .inl rfl⟩
  · show Aft (enterN (word c) s a ch x (word c')) s ch ∧ ((enterN (word c) s a ch x (word c')).done = true ∨ Way (enterN (word c) s a ch x (word c')) s a ch)
    unfold enterN
    split
    · exact ⟨⟨rfl, rfl, rfl, rfl, rfl, .inr rfl, word_bd hc'⟩, .inl rfl⟩
    · exact ⟨(way_aft (.inl rfl : Way _ s a ch)).1, .inr (.inl rfl)⟩
theorem wayStep_any (p b k : Nat) (ws : List Int) (c : Ctl) (s a : Int) (ch : Sl) (r : Rn) (w : World) (hw : Way r s a ch) (hA : Arn w p b ws) (hc : Right c) (hk : ws[k]? = some (word c)) (hs : 1 ≤ s ∧ s ≤ 3) (ha : (k : Int) = 8 * s) :
    Calls Try.prog 17 #[.agg #[.int .i64 4, .int .i64 4, .int .i64 0, .int .i64 64], .pointer (some ⟨p, 0, none⟩), r.v] w fun e w' => e = .returned (.tuple #[(stepR c r).v, .int .i64 0]) ∧ Arn w' p b (ws.set k (stepX c r)) ∧ Keep [b] w w' := by
  obtain ⟨h1, h2⟩ := way_aft hw
  exact step_any p b k 4 4 0 64 ws c r w PL hA hc hk (by rw [h1.ca]; exact ha) (by rw [h1.ca]; omega) h1.said h2 h1.pc h1.next
theorem wayRStep_any (X q d k : Nat) (ws : List Int) (c : Ctl) (s a : Int) (ch : Sl) (r : Rn) (w : World) (hw : Way r s a ch) (hX : RAll w X q d 4 4 0 64 ws) (hc : Right c) (hk : ws[k]? = some (word c)) (hs : 1 ≤ s ∧ s ≤ 3) (ha : (k : Int) = 8 * s) :
    Calls Try.prog 19 #[.pointer (some ⟨X, 0, none⟩), r.v] w fun e w' => e = .returned (stepR c r).v ∧ RAll w' X q d 4 4 0 64 (ws.set k (stepX c r)) ∧ Keep [d] w w' := by
  rcases hw with rfl | ⟨x, c', hc', rfl⟩
  · refine (rstepLook_any X q d k ws c s a ch w hX hc hk hs ha).mono ?_
    rintro e w' ⟨rfl, hb⟩
    refine ⟨rfl, ?_, keep_below hb [d]⟩
    rw [show stepX c (callRn s a ch) = word c from stepX_13 rfl, set_same hk]
    exact hX.below hb
  · refine (rstepEnter_any X q d k ws c s a ch x (word c') w hX hc hk hs ha (word_bd hc')).mono ?_
    rintro e w' ⟨rfl, hx, hK⟩
    refine ⟨rfl, ?_, hK⟩
    have h2 : stepX c (wayR s a ch x (word c')) = enterW (word c) x (word c') := by
      unfold stepX enterW
      by_cases h : word c = x
      · rw [if_pos ⟨rfl, h⟩, if_pos h]; rfl
      · rw [if_neg (fun g => h g.2), if_neg h]
    rw [h2]
    exact hx
theorem wayDone_any (p b k : Nat) (ws : List Int) (c : Ctl) (s : Int) (ch : Sl) (r : Rn) (w : World) (h1 : Aft r s ch) (hd : r.done = true) (hA : Arn w p b ws) (hc : Right c) (hk : ws[k]? = some (word c)) (hs : 1 ≤ s ∧ s ≤ 3) (ha : (k : Int) = 8 * s) :
    Calls Try.prog 17 #[.agg #[.int .i64 4, .int .i64 4, .int .i64 0, .int .i64 64], .pointer (some ⟨p, 0, none⟩), r.v] w fun e w' => e = .returned (.tuple #[.agg ZRun, .int .i64 1]) ∧ Arn w' p b ws ∧ Keep [b] w w' :=
  (stepDoneZ_any p b k 4 4 0 64 ws c r w PL hA hc hk (by rw [h1.ca]; exact ha) (by rw [h1.ca]; omega) h1.said hd h1.pc h1.next).mono fun e w' h => ⟨h.1, hA.below h.2, keep_below h.2 [b]⟩
theorem runOk_way {w : World} {F : List Nat} {r : Rn} {s a : Int} {cA : Option Addr} {kc : Nat} (hs : 1 ≤ s ∧ s ≤ 3) (ha : 0 ≤ a ∧ a ≤ 3) (he : Ents w cA [(a, true)]) (hf : ∀ z, 0 < [(a, true)].length → cA = some z → z.block ∉ F) (h : r.done = true ∨ Way r s a ⟨cA, 1, kc⟩) : RunOk w F r := by
  rcases h with h | h
  · exact .inl h
  · exact .inr ⟨s, a, cA, kc, hs, ha, he, hf, h⟩
theorem yieldsIf_load_sub {P : Program} {ops : Array Oper} {S : World → Prop} {op : Oper} {a : Act} (hw : Region.wanted op (yielded ops a.tmps) = true) (ty : TypeId) (x : Operand) (ho : op.op = .load ty x)
    (g off : Nat) (hx : a.eval x = .pointer (some ⟨g, off, none⟩)) (cur cs : Array Value) {t : TypeId} {fr : Nat × Nat} {d : TypeDesc} (hS : ∀ w, S w → w.heap[g]? = some (.cells cur t fr)) (hc : ∀ j v, cs[j]? = some v → cur[off + j]? = some v)
    (hu : P.underlying ty = some d) (hd : (match d with | .struct _ | .array _ _ => true | _ => false) = true) (hi : (P.info? ty).map (·.size) = some cs.size) : YieldsIf P ops S op (.agg cs) a :=
  .inl ⟨hw, fun w hw' => by
    unfold execOp
    simp only [ho, hx, Instr.loadAt, Instr.sureAddr, Sem.run_bind, Sem.run_pure, Result.andThen_ok, run_loadVar_sub w g off t ty cur cs fr d (hS w hw') hc hu hd hi]⟩

end Go.Proofs.Ytconieenkeajiaa
