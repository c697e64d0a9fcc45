/- Layer 18: what the last one who leaves has come to, for the laws. -/
import Derived.Test.YtbijaloeilnjoaaGreatLJ
import Derived.Test.YtbijaloeilnjoaaGreatLO
namespace Go.Proofs.YtbijaloeilnjoaaGreat
open Go.RowKit
set_option linter.unusedVariables false
set_option linter.unusedSimpArgs false

theorem zeroE_all {l : List Ob} (h : used l ≤ 64) : zeroE l (used l) = List.replicate 64 0 := by
  unfold zeroE extE
  rw [List.drop_append_of_le_length (by rw [flat_used]; exact Nat.le_refl _), List.drop_of_length_le (by rw [flat_used]; exact Nat.le_refl _), List.nil_append, List.replicate_append_replicate]
  congr 1; omega
theorem fitFo_ok (o : Fo) : FoOk (fitFo o) := by
  unfold fitFo
  split
  · exact ⟨by simp, by simp; omega, by simp, by simp⟩
  split
  · exact ⟨by simp, by simp; omega, by simp, by simp⟩
  split
  · exact ⟨by simp, by simp; omega, by simp; omega, by simp⟩
  split
  · exact ⟨by simp, by simp; omega, by simp; omega, by simp⟩
  · exact ⟨by simp, by simp, by simp, by simp⟩
def fitL (l : List (List Fo)) : List (List Fo) := (l.take 8).map fun p => (p.take 8).map fitFo
theorem fitL_len (l : List (List Fo)) : (fitL l).length ≤ 8 := by unfold fitL; simp; omega
theorem fitL_ops (l : List (List Fo)) : ∀ p ∈ fitL l, p.length ≤ 8 := by
  intro p hp
  unfold fitL at hp
  obtain ⟨q, _, rfl⟩ := List.mem_map.1 hp
  simp
  omega
theorem fitL_ok (l : List (List Fo)) : ∀ p ∈ fitL l, ∀ o ∈ p, FoOk o := by
  intro p hp o ho
  unfold fitL at hp
  obtain ⟨q, _, rfl⟩ := List.mem_map.1 hp
  obtain ⟨x, _, rfl⟩ := List.mem_map.1 ho
  exact fitFo_ok x
theorem hasB_bd (h : Int) (k : Nat) : 0 ≤ hasB h k ∧ hasB h k ≤ 7 := by unfold hasB; omega
theorem obOf_ok (o : Oj) : ObOk (obOf o) := by
  have := o.n6
  refine ⟨by unfold obOf; simpa using this, o.t7, fun x hx => ?_⟩
  unfold obOf at hx
  obtain ⟨j, _, rfl⟩ := List.mem_map.1 hx
  have := hasB_bd o.h j
  omega
theorem obsOf_ok (l : List Oj) : ∀ o ∈ obsOf l, ObOk o := fun o ho => by
  obtain ⟨x, _, rfl⟩ := List.mem_map.1 ho
  exact obOf_ok x
theorem obsOf_len (l : List Oj) : (obsOf l).length = min l.length 8 := by unfold obsOf; simp; omega
section
variable {fs : List (List Fo)}
theorem laFa_used (f8 : ∀ tg, (fsOf fs tg).length ≤ 8) (l : List Ob) : used (laFa fs l).obs = used l := (finAll_n f8 (todoR fs l) l).2.1
/-- the words, when none held -/
theorem ws_open (f8 : ∀ tg, (fsOf fs tg).length ≤ 8) {l : List Ob} (hu : used l ≤ 64) (h : (laFa fs l).held = false) : wsOf ⟨3, 0, 0, 4⟩ (laEnd fs l) = wsL ⟨1, 0, -1, 5⟩ 0 0 (List.replicate 64 0) := by
  have h1 := laFa_used f8 l
  have hpc : (laEnd fs l).pc = 26 := by unfold laEnd; rw [h]; rfl
  have hz : (laEnd fs l).z = used (laFa fs l).obs := by unfold laEnd; rw [h]; rfl
  unfold wsOf ctlOf topOf gateOf extOf
  rw [if_pos (show (laEnd fs l).done = true from rfl), if_neg (by rw [hpc]; decide), if_pos hpc, if_neg (by rw [hpc]; decide), if_neg (by rw [hpc]; decide), hz]
  show wsL _ 0 0 (zeroE (laFa fs l).obs (used (laFa fs l).obs)) = _
  rw [zeroE_all (by rw [h1]; exact hu)]
  rfl
/-- the words, when one holds -/
theorem ws_held (f8 : ∀ tg, (fsOf fs tg).length ≤ 8) {l : List Ob} (h : (laFa fs l).held = true) : wsOf ⟨3, 0, 0, 4⟩ (laEnd fs l) = wsL ⟨2, 1, 0, 4⟩ (8 * (used l : Int)) 99 (extE (laFa fs l).obs) := by
  have h1 := laFa_used f8 l
  have hpc : (laEnd fs l).pc = 22 := by unfold laEnd; rw [h]; rfl
  unfold wsOf ctlOf topOf gateOf extOf
  rw [if_pos (show (laEnd fs l).done = true from rfl), if_pos hpc, if_neg (by rw [hpc]; decide), if_pos (by rw [hpc]; decide), if_pos (by rw [hpc]; decide)]
  show wsL _ (8 * (used (laFa fs l).obs : Int)) 99 (extE (laFa fs l).obs) = _
  rw [h1]
  rfl
def NoH (fs : List (List Fo)) : Prop := ∀ p ∈ fs, ∀ o ∈ p, o.op ≠ 4
theorem finGo_noh {ops : List Fo} (h : ∀ o ∈ ops, o.op ≠ 4) : ∀ (f k : Nat) (sl : List Int), (finGo ops f k sl).held = false
  | 0, k, sl => rfl
  | f + 1, k, sl => by
    unfold finGo
    cases e : ops[k]? with
    | none => rfl
    | some o =>
      dsimp only
      rw [finGo_noh h f]
      have := h o (List.mem_of_getElem? e)
      unfold finH
      simp [this]
theorem laFa_noh (h : NoH fs) (l : List Ob) : (laFa fs l).held = false := by
  rw [(laFa_is fs l).2, List.any_eq_false]
  intro r hr
  obtain ⟨j, _, rfl⟩ := List.mem_map.1 hr
  unfold frOf
  cases e : l[j]? with
  | none => simp
  | some o =>
    dsimp only
    unfold fin8
    rw [finGo_noh (fun x hx => ?_)]
    · simp
    · by_cases he : fsOf fs o.tg = []
      · rw [he] at hx; cases hx
      · exact h _ (fsOf_mem he) x hx
end
theorem FtsAt.fins {B : Nat} {w : World} {A : Option Addr} {c : Nat} {ls : List (List Fo)} {fl : List FSl} (h : FtsAt B w A c ls fl) : FinsAt w A fl := by
  obtain ⟨A9, c9, e9, -, -, h9⟩ := own_slice h.own
  injection e9 with e1 e2 e3
  subst e1
  exact ⟨h9, fun x hx => (h.at_ x hx).e⟩
theorem FtsAt.off {B b : Nat} {w : World} {A : Option Addr} {c : Nat} {ls : List (List Fo)} {fl : List FSl} (h : FtsAt B w A c ls fl) (hb : w.heap.size ≤ b) : FinsOff A fl b :=
  ⟨fun z hz => by have := own_ltF h.own z.block (by rw [hz]; rfl); omega, fun x hx z hz => by have := ((h.at_ x hx).lo z hz).2; omega⟩
/-- the last one who leaves the scope that was laid -/
theorem alIn_laid {fs : List (List Fo)} {fs0 : List (List Fo)} (l : List Oj) (h : fs = fitL fs0) : AlIn fs (obsOf l) (c18 1) ⟨3, 0, 0, 4⟩ := by
  subst h
  exact ⟨fitL_ops _, fitL_ok _, fitL_len _, obsOf_ok l, by rw [obsOf_len]; omega, obsOf_used l, by decide, by kernel_rfl, ⟨by decide, rfl⟩⟩
/-- what it is told, and the words then -/
structure Ended (fs : List (List Fo)) (obs : List Ob) (c1 : Ctl) (T : List Nat) (w : World) (p b : Nat) (R : Rn) : Prop where
  dn : R.done = true
  pt : R.point = true
  co : R.code = if (laFa fs obs).held = true then 25 else 0
  an : R.an = ((todoR fs obs).length : Int)
  sa : SlAt' w b T R.asaid (laFa fs obs).said
  arn : Arn w p b (wsOf c1 (laEnd fs obs))
theorem AlAt.ended {fs : List (List Fo)} {obs : List Ob} {c0 c1 : Ctl} {ch : Sl} {T : List Nat} {w : World} {p b : Nat} {R : Rn} (I : AlIn fs obs c0 c1) (H : AlAt fs obs c0 c1 ch T w p b (2 + laN fs obs) R) : Ended fs obs c1 T w p b R := by
  have h3 := (laN_bd I.f8 obs).1
  rcases H with ⟨h, _⟩ | ⟨h, _⟩ | ⟨k, _, _, h, hk, _⟩ | ⟨_, he, hA⟩
  · omega
  · omega
  · omega
  · obtain ⟨ls, sd, sa, e, h1, h2, h4⟩ := he
    subst e
    refine ⟨rfl, rfl, ?_, rfl, h4, hA⟩
    show (if (if (laFa fs obs).held = true then (22 : Int) else 26) = 22 then (25 : Int) else 0) = _
    cases (laFa fs obs).held <;> simp
end Go.Proofs.YtbijaloeilnjoaaGreat
