/- Layer 18 in plain terms: the last one who leaves from its beginning; within which bound it is done. Layer 18: leave.Step makes of the last one who leaves what laStep says. (Printed by gen_lvj.py.) Layer 18: the last one who leaves, step by step from its beginning. (Printed by gen_al18.py.) Layer 18: the walk of alone: the last one who leaves. (Printed by gen_alo18.py.) Layer 18: one who leaves, and is not the last one; the walk of shown. (Printed by gen_sh18.py.) Layer 18 in plain terms: the words behind the last one who leaves; finalizers that do not hold. -/
import Derived.Test.YtbijaloeilnjoaaGreatLI
import Derived.Test.YtbijaloeilnjoaaGreatLZ
import Derived.Test.YtbijaloeilnjoaaGreatLvN
import Derived.Test.YtbijaloeilnjoaaGreatLvY
import Derived.Test.YtbijaloeilnjoaaGreatLvM
import Derived.Test.YtbijaloeilnjoaaGreatLP
namespace Go.Proofs.YtbijaloeilnjoaaGreat
open Go.RowKit
set_option linter.unusedVariables false
set_option linter.unusedSimpArgs false

theorem fin8_n {ops : List Fo} (h : ops.length ≤ 8) (k : Nat) (sl : List Int) : (fin8 ops k sl).n ≤ 8 ∧ (fin8 ops k sl).sl.length = sl.length := by
 have := finGo_n ops 8 k sl
 unfold fin8
 exact ⟨by omega, this.2⟩
theorem finAll_n {fs : List (List Fo)} (f8 : ∀ tg, (fsOf fs tg).length ≤ 8) : ∀ (js : List Nat) (l : List Ob), (finAll fs js l).n ≤ 9 * js.length ∧ used (finAll fs js l).obs = used l ∧ (finAll fs js l).obs.length = l.length
 | [], l => ⟨Nat.le_refl _, rfl, rfl⟩
 | j :: js, l => by
  unfold finAll
  cases e : l[j]? with
  | none => exact ⟨Nat.zero_le _, rfl, rfl⟩
  | some o =>
   dsimp only
   obtain ⟨h1, h2, h3⟩ := finAll_n f8 js (l.set j ⟨(fin8 (fsOf fs o.tg) 0 o.sl).sl, o.tg, true⟩)
   obtain ⟨g1, g2⟩ := fin8_n (f8 o.tg) 0 o.sl
   refine ⟨?_, ?_, ?_⟩
   ·rw [List.length_cons]; omega
   ·rw [h2]
    exact used_set e (by unfold Ob.w; dsimp only; rw [g2])
   ·rw [h3, List.length_set]
theorem todoFrom_len {fs : List (List Fo)} (l : List Ob) : ∀ (k i : Nat), (todoFrom fs l k i).length ≤ k
 | 0, i => Nat.le_refl _
 | k + 1, i => by
  unfold todoFrom
  have := todoFrom_len (fs := fs) l k (i + 1)
  rw [List.length_append]
  cases e : l[i]? with
  | none => simp; omega
  | some o =>
   dsimp only
   split <;> simp <;> omega
theorem todoR_len {fs : List (List Fo)} (l : List Ob) : (todoR fs l).length ≤ l.length := by
 unfold todoR
 rw [List.length_reverse]
 exact todoFrom_len l l.length 0
/-- the bound -/
theorem laN_bd {fs : List (List Fo)} (f8 : ∀ tg, (fsOf fs tg).length ≤ 8) (l : List Ob) : 3 + l.length ≤ laN fs l ∧ laN fs l ≤ 5 + 10 * l.length + used l := by
 obtain ⟨h1, h2, h3⟩ := finAll_n f8 (todoR fs l) l
 have h4 := todoR_len (fs := fs) l
 unfold laN laFa
 rw [h2]
 split <;> omega
theorem fsOf_len {fs : List (List Fo)} (h : ∀ ops ∈ fs, ops.length ≤ 8) (tg : Nat) : (fsOf fs tg).length ≤ 8 := by
 by_cases e : fsOf fs tg = []
 ·rw [e]; decide
 ·exact h _ (fsOf_mem e)
/-- where the last one begins -/
structure AlIn (fs : List (List Fo)) (obs : List Ob) (c0 c1 : Ctl) : Prop where
 fs8 : ∀ ops ∈ fs, ops.length ≤ 8
 fok : ∀ ops ∈ fs, ∀ o ∈ ops, FoOk o
 fl : fs.length ≤ 8
 ob : ∀ o ∈ obs, ObOk o
 nobs : obs.length ≤ 8
 use : used obs ≤ 64
 r0 : Right c0
 lv : leave c0 = (c1, 0)
 dr : Drained c1
section
variable {fs : List (List Fo)} {obs : List Ob} {c0 c1 : Ctl}
theorem AlIn.f8 (H : AlIn fs obs c0 c1) (tg : Nat) : (fsOf fs tg).length ≤ 8 := fsOf_len H.fs8 tg
theorem AlIn.la0 (H : AlIn fs obs c0 c1) : LaIn fs (la0 obs) :=
 ⟨H.fs8, H.fok, H.fl, H.ob, H.nobs, H.use, rfl, ⟨by show (17 : Int) ≤ 17; decide, by show (17 : Int) ≤ 26; decide⟩, fun j hj => (by cases hj), Nat.le_refl _, fun _ => ⟨rfl, rfl, rfl, rfl, rfl⟩, fun h => (by cases h), fun h => absurd h (by show ¬ (20 : Int) ≤ 17; decide), fun h => (by cases h), fun h => (by cases h), fun _ _ => rfl, fun _ => rfl, fun h => (by cases h), fun h => absurd h (by show ¬ (25 : Int) ≤ 17; decide), fun h => absurd h (by show ¬ (22 : Int) ≤ 17; decide), ⟨fun h => (by cases h), fun h => absurd h (by show ¬ (23 : Int) ≤ 17; decide)⟩, Nat.zero_le _, Nat.zero_le _, Nat.zero_le _⟩
theorem AlIn.runs (H : AlIn fs obs c0 c1) : Runs fs (Go.Proofs.YtbijaloeilnjoaaGreat.la0 obs) (laN fs obs) (laEnd fs obs) := la_runs H.f8 obs
theorem AlIn.inn (H : AlIn fs obs c0 c1) {k : Nat} (hk : k < laN fs obs) : LaIn fs (laIter fs k (Go.Proofs.YtbijaloeilnjoaaGreat.la0 obs)) := laIter_in H.la0 k (fun m hm => H.runs.on m (by omega))
end
theorem wsOf_la0 (c : Ctl) (obs : List Ob) : wsOf c (la0 obs) = wsL c (8 * (used obs : Int)) 99 (extE obs) := by
 unfold wsOf ctlOf topOf gateOf extOf
 rw [if_neg (by show ¬ (false = true); simp), if_neg (by show ¬ (17 : Int) = 26; decide), if_pos (by show (17 : Int) ≤ 23; decide), if_pos (by show (17 : Int) ≤ 23; decide)]
 rfl
/-- the finalizers lie in no block of the arena -/
structure FinsOff (fA : Option Addr) (fl : List FSl) (b : Nat) : Prop where
 a : ∀ z, fA = some z → z.block ≠ b
 x : ∀ x ∈ fl, ∀ z, x.a = some z → z.block ≠ b
theorem FinsAt.kept {w w' : World} {fA : Option Addr} {fl : List FSl} {b : Nat} (h : FinsAt w fA fl) (k : Keep [b] w w') (ho : FinsOff fA fl b) : FinsAt w' fA fl :=
 ⟨Cells.kept h.row k (fun z hz => by simpa using ho.a z hz), fun x hx => Cells.kept (h.ops x hx) k (fun z hz => by simpa using ho.x x hx z hz)⟩
end Go.Proofs.YtbijaloeilnjoaaGreat

namespace Go.Proofs.YtbijaloeilnjoaaGreat
open Go.RowKit
set_option linter.unusedVariables false
set_option linter.unusedSimpArgs false

set_option maxRecDepth 100000 in
theorem go_see : goesTo 86 := fun v y => by kernel_rfl
set_option maxRecDepth 100000 in
theorem go_leave : goesTo 87 := fun v y => by kernel_rfl
set_option maxRecDepth 100000 in
theorem go_first : goesTo 88 := fun v y => by kernel_rfl
set_option maxRecDepth 100000 in
theorem go_top : goesTo 89 := fun v y => by kernel_rfl
set_option maxRecDepth 100000 in
theorem go_walk : goesTo 90 := fun v y => by kernel_rfl
set_option maxRecDepth 100000 in
theorem go_fin : goesTo 91 := fun v y => by kernel_rfl
set_option maxRecDepth 100000 in
theorem go_mark : goesTo 92 := fun v y => by kernel_rfl
set_option maxRecDepth 100000 in
theorem go_hold : goesTo 93 := fun v y => by kernel_rfl
set_option maxRecDepth 100000 in
theorem go_clear : goesTo 94 := fun v y => by kernel_rfl
set_option maxRecDepth 100000 in
theorem go_zero : goesTo 95 := fun v y => by kernel_rfl
set_option maxRecDepth 100000 in
theorem go_reset : goesTo 96 := fun v y => by kernel_rfl
set_option maxRecDepth 100000 in
theorem go_open : goesTo 97 := fun v y => by kernel_rfl
theorem rLa_up (r0 : Rn) (S S' : La) (ls sd ls' sd' : Sl) {a wd x y o' n' : Int} {hh : Bool} (e1 : a = S'.pc) (e2 : wd = if S'.pc = 17 then r0.word else 128) (e3 : x = atLa S') (e4 : y = topLa S') (e5 : o' = (S'.op : Int)) (e6 : n' = (S'.n : Int)) (e7 : hh = S'.held) :
  ({ rLa r0 S ls sd with pc := a, word := wd, at_ := x, top := y, list := ls', op := o', said := sd', n := n', held := hh } : Rn) = rLa r0 S' ls' sd' := by
 subst e1 e2 e3 e4 e5 e6 e7
 rfl
structure SlAt' (w : World) (b : Nat) (T : List Nat) (s : Sl) (l : List Int) : Prop where
 n : s.n = l.length
 e : Cells w s.a (l.flatMap nCells)
 b : ∀ z, s.a = some z → z.block ≠ b
 t : 0 < l.length → ∀ z, s.a = some z → z.block ∉ T
theorem SlAt'.kept {w w' : World} {b : Nat} {T : List Nat} {s : Sl} {l : List Int} (h : SlAt' w b T s l) (k : Keep [b] w w') : SlAt' w' b T s l := ⟨h.n, Cells.kept h.e k (fun a ha => by simpa using h.b a ha), h.b, h.t⟩
theorem SlAt'.below {w w' : World} {b : Nat} {T : List Nat} {s : Sl} {l : List Int} (h : SlAt' w b T s l) (k : Below w.heap.size w w') : SlAt' w' b T s l := ⟨h.n, Cells.below h.e k, h.b, h.t⟩
theorem SlAt.to {w : World} {b : Nat} {T : List Nat} {s : Sl} {l : List Int} (h : SlAt w b T s l) : SlAt' w b T s l := ⟨h.n, h.e, h.b, h.t⟩
structure EndAt (w : World) (b : Nat) (T : List Nat) (r0 : Rn) (s : La) (R : Rn) : Prop where
 is : ∃ ls sd sa, R = toldR (rLa r0 s ls sd) (if s.pc = 22 then 25 else 0) (s.n : Int) sa ∧ ls.n = 0 ∧ SlAt' w b T sd s.said ∧ SlAt' w b T sa s.said
theorem further_pc (s : La) : further s = { s with pc := (further s).pc } ∧ ((further s).pc = 20 ∨ (further s).pc = 22 ∨ (further s).pc = 23) := by
 refine ⟨rfl, ?_⟩
 unfold further
 by_cases h : s.todo = []
 ·cases hh : s.held <;> simp [h]
 ·simp [h]
theorem onLa_pc (s : La) : onLa s = { s with pc := (onLa s).pc } ∧ ((onLa s).pc = 19 ∨ (onLa s).pc = 20 ∨ (onLa s).pc = 22 ∨ (onLa s).pc = 23) := by
 unfold onLa
 by_cases h : s.i < s.obs.length
 ·rw [if_pos h]; exact ⟨rfl, .inl rfl⟩
 ·rw [if_neg h]; exact ⟨(further_pc s).1, .inr (further_pc s).2⟩
theorem furtherP_la (s : La) (r : Rn) (h1 : r.list.n = s.todo.length) (h2 : r.held = s.held) : furtherP r = (further s).pc := by
 unfold furtherP further
 rw [h1, h2]
 by_cases h : s.todo = []
 ·rw [if_pos (by rw [h]; rfl)]; simp [h]
 ·rw [if_neg (by rw [List.length_eq_zero_iff]; exact h)]; simp [h]
theorem onP_la (s : La) (r : Rn) (h1 : r.list.n = s.todo.length) (h2 : r.held = s.held) (h3 : r.at_ = 128 + 8 * (offs s.obs s.i : Int)) (h4 : r.top = 128 + 8 * (used s.obs : Int)) : onP r = (onLa s).pc := by
 unfold onP onLa
 rw [h3, h4]
 by_cases h : s.i < s.obs.length
 ·have := offs_lt (List.getElem?_eq_getElem h)
  rw [if_pos h, if_pos (by have h9 : 2 ≤ (s.obs[s.i]'h).w := (by unfold Ob.w; omega); omega)]
 ·have e : offs s.obs s.i = used s.obs := by unfold offs; rw [List.take_of_length_le (by omega)]
  rw [if_neg h, if_neg (by omega), furtherP_la s r h1 h2]
section
variable {T : List Nat} {fl : List FSl} {fA : Option Addr} {fc p b : Nat} {c : Ctl} {r0 r : Rn} {S : La} {ls sd : Sl} {w : World}
theorem ob_get {l : List Ob} {k : Nat} {o : Ob} (h : l[k]? = some o) (c : Ctl) (t g : Int) (j : Nat) (hj : j < o.w) : (wsL c t g (extE l))[16 + offs l k + j]? = (obW o)[j]? := by
 rw [Nat.add_assoc, wsL_e, extE_get h hj]
theorem ob_h1 {l : List Ob} {k : Nat} {o : Ob} (h : l[k]? = some o) (c : Ctl) (t g : Int) : (wsL c t g (extE l))[16 + offs l k]? = some (head1d (2 + (o.sl.length : Int)) o.sl.length o.tg o.dn) := by
 have := ob_get h c t g 0 (by unfold Ob.w; omega)
 rw [Nat.add_zero] at this
 rw [this]; rfl
theorem ob_h2 {l : List Ob} {k : Nat} {o : Ob} (h : l[k]? = some o) (c : Ctl) (t g : Int) : (wsL c t g (extE l))[16 + offs l k + 1]? = some (head2 1 4) := by
 rw [ob_get h c t g 1 (by unfold Ob.w; omega)]; rfl
theorem ob_head {o : Ob} (h : ObOk o) : HeadOk (2 + (o.sl.length : Int)) (o.sl.length : Int) (o.tg : Int) 1 4 :=
 ⟨by have := h.n; omega, by have := h.n; omega, by have := h.tg; omega, by omega, by omega⟩
theorem map_set {l : List Ob} {k : Nat} {o o' : Ob} (h : l[k]? = some o) (hw : o'.w = o.w) (t : List Nat) : t.map (plLa (l.set k o')) = t.map (plLa l) := by
 refine List.map_congr_left fun j _ => ?_
 unfold plLa
 rw [offs_set h hw]
theorem putW_ob {l : List Ob} {k : Nat} {o : Ob} (h : l[k]? = some o) (sl' : List Int) (hl : sl'.length = o.sl.length) (c : Ctl) (t g : Int) : ∀ i, i ≤ sl'.length →
  putW (wsL c t g (extE l)) (16 + offs l k + 2) (sl'.take i) = wsL c t g (extE (l.set k { o with sl := sl'.take i ++ o.sl.drop i }))
 | 0, _ => by
  obtain ⟨hk, e⟩ := List.getElem?_eq_some_iff.1 h
  have hs : l.set k { o with sl := sl'.take 0 ++ o.sl.drop 0 } = l := by
   have : ({ o with sl := sl'.take 0 ++ o.sl.drop 0 } : Ob) = o := by simp
   rw [this, ← e, List.set_getElem_self]
  rw [hs]
  rfl
 | i + 1, hi => by
  have ih := putW_ob h sl' hl c t g i (by omega)
  have hx : sl'[i]? = some (sl'[i]'(by omega)) := List.getElem?_eq_getElem _
  rw [putW_next _ _ _ _ _ hx, ih, Nat.add_assoc, Nat.add_assoc, wsL_setE]
  obtain ⟨o1, ho1⟩ : ∃ x, x = ({ o with sl := sl'.take i ++ o.sl.drop i } : Ob) := ⟨_, rfl⟩
  have hk := (List.getElem?_eq_some_iff.1 h).1
  have h1 : (l.set k o1)[k]? = some o1 := by rw [List.getElem?_set, if_pos rfl, if_pos hk]
  have hw1 : o1.w = o.w := by rw [ho1]; unfold Ob.w; simp; omega
  rw [← ho1]
  have e0 : offs l k = offs (l.set k o1) k := (offs_set h hw1).symm
  rw [e0, extE_set (o' := { o with sl := sl'.take (i + 1) ++ o.sl.drop (i + 1) }) h1 (by rw [hw1]; unfold Ob.w; simp; omega) (by rw [hw1]; unfold Ob.w; omega) ?_, List.set_set]
  rw [ho1]
  unfold obW
  rw [show 2 + i = (i + 1) + 1 by omega, List.set_cons_succ, List.set_cons_succ]
  have e3 : (sl'.take i ++ o.sl.drop i).set i (sl'[i]'(by omega)) = sl'.take (i + 1) ++ o.sl.drop (i + 1) := by
   rw [List.set_append_right _ _ (by simp; omega), List.length_take, Nat.min_eq_left (by omega), Nat.sub_self, List.drop_eq_getElem_cons (by omega), List.set_cons_zero, List.take_add_one, hx]
   simp only [Option.toList_some, List.append_assoc, List.singleton_append]
  dsimp only
  rw [e3]
  simp only [List.length_append, List.length_take, List.length_drop]
  rw [show min (i + 1) sl'.length + (o.sl.length - (i + 1)) = min i sl'.length + (o.sl.length - i) by omega]
theorem putW_all {l : List Ob} {k : Nat} {o : Ob} (h : l[k]? = some o) (sl' : List Int) (hl : sl'.length = o.sl.length) (c : Ctl) (t g : Int) :
  putW (wsL c t g (extE l)) (16 + offs l k + 2) sl' = wsL c t g (extE (l.set k { o with sl := sl' })) := by
 have h9 := putW_ob h sl' hl c t g sl'.length (Nat.le_refl _)
 rwa [List.take_length, List.drop_of_length_le (by omega), List.append_nil] at h9
theorem mark_ob {l : List Ob} {k : Nat} {o : Ob} (h : l[k]? = some o) (c : Ctl) (t g : Int) :
  (wsL c t g (extE l)).set (16 + offs l k) (head1d (2 + (o.sl.length : Int)) o.sl.length o.tg true) = wsL c t g (extE (l.set k { o with dn := true })) := by
 rw [wsL_setE]
 have := extE_set (o' := { o with dn := true }) h rfl (j := 0) (by unfold Ob.w; omega) (x := head1d (2 + (o.sl.length : Int)) o.sl.length o.tg true) (by unfold obW; rfl)
 rw [Nat.add_zero] at this
 rw [this]
theorem la17_any (D : Drained c) (I : LaIn (fsL fl) S) (hA : Arn w p b (wsOf c S)) (hR : LvAt w b T c r0 S ls sd r) (hF : FinsAt w fA fl) (hTl : ∀ j ∈ T, j < w.heap.size) (h : S.pc = 17) :
  Calls Tryz.prog 15 #[.agg #[.int .i64 2, .int .i64 4, .int .i64 0, .int .i64 512], .slice fA fl.length fc, .pointer (some ⟨p, 0, none⟩), r.v] w fun e w' => Arn w' p b (wsOf c (laStep (fsL fl) S)) ∧ Keep [b] w w' ∧ ∃ R ls' sd', e = .returned (.tuple #[R.v, .int .i64 0]) ∧ LvAt w' b T c r0 (laStep (fsL fl) S) ls' sd' R := by
 obtain rfl := hR.r
 have hu := I.use
 have hpc : (rLa r0 S ls sd).pc = 17 := h
 have har : (rLa r0 S ls sd).area = 1 := hR.ar
 have es : laStep (fsL fl) S = { S with pc := 18 } := by
  unfold laStep
  rw [if_pos h]
 rw [es]
 have ew : wsOf c S = wsL c (8 * (used S.obs : Int)) 99 (extE S.obs) := by
  unfold wsOf ctlOf topOf gateOf extOf
  rw [if_neg (by rw [I.done]; simp), if_neg (by omega), if_pos (show S.pc ≤ 23 by omega), if_pos (show S.pc ≤ 23 by omega)]
 rw [ew] at hA
 refine (lvStepS_any p b 2 4 0 512 fA fl.length fc (rLa r0 S ls sd) w 88 2 17 _ (wsL c (8 * (used S.obs : Int)) 99 (extE S.obs)) _ hpc rfl hR.dn go_first hA (fun g w1 hb1 hg1 hT1 hA1 hgb hgp => lvFirst_any g p 2 4 0 512 fA fl.length fc b (wsL c (8 * (used S.obs : Int)) 99 (extE S.obs)) 9 128 _ w1 plan18 hT1 hA1 hgb hgp (by omega) wsL_b (by rw [har]; rfl) (by rw [har]; omega))).mono ?_
 rintro e w2 ⟨rfl, hA2, hK2⟩
 refine ⟨?_, hK2, _, ls, sd, rfl, ⟨?_, hR.ar, hR.dn, hR.nx, ?_, ?_⟩⟩
 ·show Arn w2 p b (wsOf c { S with pc := 18 })
  have e9 : wsOf c { S with pc := 18 } = (wsL c (8 * (used S.obs : Int)) 99 (extE S.obs)) := by
   unfold wsOf ctlOf topOf gateOf extOf
   dsimp only
   rw [if_neg (by rw [I.done]; simp), if_neg (by omega), if_pos (by omega), if_pos (by omega)]
  rw [e9]
  exact hA2
 ·have i0 := (I.i18 (by omega)).1
  exact rLa_up r0 S { S with pc := 18 } ls sd ls sd rfl (by rw [if_neg (by show ¬ (18 : Int) = 17; omega)]) (by unfold atLa; dsimp only; rw [if_neg (by omega), if_pos (by omega), i0]; rfl) (by show topLa S = _; unfold topLa; rw [if_pos (by omega), if_pos (by show (18 : Int) ≤ 18; omega)]) rfl rfl rfl
 ·exact hR.ls.kept hK2
 ·exact hR.sd.kept hK2
theorem words_low (c : Ctl) (s : La) (hd : s.done = false) (h : s.pc ≤ 23) : wsOf c s = wsL c (8 * (used s.obs : Int)) 99 (extE s.obs) := by
 unfold wsOf ctlOf topOf gateOf extOf
 rw [if_neg (by rw [hd]; simp), if_neg (by omega), if_pos h, if_pos h]
theorem rLa_on (r0 : Rn) (S s : La) (ls sd ls' sd' : Sl) {a wd x y o' n' : Int} {hh : Bool} (h1 : a = (onLa s).pc) (e2 : wd = 128) (e3 : x = 128 + 8 * (offs s.obs s.i : Int)) (e4 : y = 128 + 8 * (used s.obs : Int)) (e5 : o' = (s.op : Int)) (e6 : n' = (s.n : Int)) (e7 : hh = s.held) :
  ({ rLa r0 S ls sd with pc := a, word := wd, at_ := x, top := y, list := ls', op := o', said := sd', n := n', held := hh } : Rn) = rLa r0 (onLa s) ls' sd' := by
 obtain ⟨e, hp⟩ := onLa_pc s
 rw [e]
 exact rLa_up r0 S { s with pc := (onLa s).pc } ls sd ls' sd' h1 (by rw [if_neg (by show ¬ (onLa s).pc = 17; omega)]; exact e2) (by unfold atLa; dsimp only; rw [if_neg (by omega), if_pos (by omega)]; exact e3) (by unfold topLa; dsimp only; rw [if_neg (by omega)]; exact e4) e5 e6 e7
theorem rLa_fu (r0 : Rn) (S s : La) (ls sd ls' sd' : Sl) {a wd x y o' n' : Int} {hh : Bool} (h1 : a = (further s).pc) (e2 : wd = 128) (e3 : x = 128 + 8 * (offs s.obs s.i : Int)) (e4 : y = 128 + 8 * (used s.obs : Int)) (e5 : o' = (s.op : Int)) (e6 : n' = (s.n : Int)) (e7 : hh = s.held) :
  ({ rLa r0 S ls sd with pc := a, word := wd, at_ := x, top := y, list := ls', op := o', said := sd', n := n', held := hh } : Rn) = rLa r0 (further s) ls' sd' := by
 obtain ⟨e, hp⟩ := further_pc s
 rw [e]
 exact rLa_up r0 S { s with pc := (further s).pc } ls sd ls' sd' h1 (by rw [if_neg (by show ¬ (further s).pc = 17; omega)]; exact e2) (by unfold atLa; dsimp only; rw [if_neg (by omega), if_pos (by omega)]; exact e3) (by unfold topLa; dsimp only; rw [if_neg (by omega)]; exact e4) e5 e6 e7
theorem words_on (c : Ctl) (s : La) (hd : s.done = false) : wsOf c (onLa s) = wsL c (8 * (used s.obs : Int)) 99 (extE s.obs) := by
 obtain ⟨e, hp⟩ := onLa_pc s
 rw [e]
 exact words_low c { s with pc := (onLa s).pc } hd (by show (onLa s).pc ≤ 23; omega)
theorem words_fu (c : Ctl) (s : La) (hd : s.done = false) : wsOf c (further s) = wsL c (8 * (used s.obs : Int)) 99 (extE s.obs) := by
 obtain ⟨e, hp⟩ := further_pc s
 rw [e]
 exact words_low c { s with pc := (further s).pc } hd (by show (further s).pc ≤ 23; omega)
theorem SlAt.cast {w : World} {b : Nat} {T : List Nat} {s : Sl} {l l' : List Int} (h : SlAt w b T s l) (e : l = l') : SlAt w b T s l' := e ▸ h
theorem at_low (h1 : ¬ S.pc = 17) (h2 : S.pc ≤ 23) : (rLa r0 S ls sd).at_ = 128 + 8 * (offs S.obs S.i : Int) := by
 show atLa S = _
 unfold atLa
 rw [if_neg h1, if_pos h2]
theorem top_hi (h1 : ¬ S.pc ≤ 18) : (rLa r0 S ls sd).top = 128 + 8 * (used S.obs : Int) := by
 show topLa S = _
 unfold topLa
 rw [if_neg h1]
theorem word_hi (h1 : ¬ S.pc = 17) : (rLa r0 S ls sd).word = 128 := by
 show (if S.pc = 17 then r0.word else 128) = 128
 rw [if_neg h1]
theorem la18_any (D : Drained c) (I : LaIn (fsL fl) S) (hA : Arn w p b (wsOf c S)) (hR : LvAt w b T c r0 S ls sd r) (hF : FinsAt w fA fl) (hTl : ∀ j ∈ T, j < w.heap.size) (h : S.pc = 18) :
  Calls Tryz.prog 15 #[.agg #[.int .i64 2, .int .i64 4, .int .i64 0, .int .i64 512], .slice fA fl.length fc, .pointer (some ⟨p, 0, none⟩), r.v] w fun e w' => Arn w' p b (wsOf c (laStep (fsL fl) S)) ∧ Keep [b] w w' ∧ ∃ R ls' sd', e = .returned (.tuple #[R.v, .int .i64 0]) ∧ LvAt w' b T c r0 (laStep (fsL fl) S) ls' sd' R := by
 obtain rfl := hR.r
 have hu := I.use
 have hpc : (rLa r0 S ls sd).pc = 18 := h
 have har : (rLa r0 S ls sd).area = 1 := hR.ar
 have hat : (rLa r0 S ls sd).at_ = 128 := by rw [at_low (by omega) (by omega), (I.i18 (by omega)).1]; rfl
 have es : laStep (fsL fl) S = onLa S := by
  unfold laStep
  rw [if_neg (by omega)]
  rw [if_pos h]
 rw [es]
 have ew : wsOf c S = wsL c (8 * (used S.obs : Int)) 99 (extE S.obs) := by
  unfold wsOf ctlOf topOf gateOf extOf
  rw [if_neg (by rw [I.done]; simp), if_neg (by omega), if_pos (show S.pc ≤ 23 by omega), if_pos (show S.pc ≤ 23 by omega)]
 rw [ew] at hA
 refine (lvStepS_any p b 2 4 0 512 fA fl.length fc (rLa r0 S ls sd) w 89 3 18 _ (wsL c (8 * (used S.obs : Int)) 99 (extE S.obs)) _ hpc rfl hR.dn go_top hA (fun g w1 hb1 hg1 hT1 hA1 hgb hgp => lvTop_any g p 2 4 0 512 fA fl.length fc b (wsL c (8 * (used S.obs : Int)) 99 (extE S.obs)) 11 (8 * (used S.obs : Int)) _ w1 plan18 hT1 hA1 hgb hgp (by rw [hat]; omega) (by show ls.n ≤ 1048576; rw [hR.ls.n, List.length_map, (I.i18 (by omega)).2.1]; simp) (by omega) wsL_t (by rw [har]; rfl) (by rw [har]; omega))).mono ?_
 rintro e w2 ⟨rfl, hA2, hK2⟩
 refine ⟨?_, hK2, _, ls, sd, rfl, ⟨?_, hR.ar, hR.dn, hR.nx, ?_, ?_⟩⟩
 ·rw [words_on c S I.done]
  exact hA2
 ·refine rLa_on r0 S S ls sd ls sd (onP_la S _ (by show ls.n = _; rw [hR.ls.n, List.length_map]) rfl (at_low (r0 := r0) (ls := ls) (sd := sd) (by omega) (by omega)) (by show (rLa r0 S ls sd).at_ + 8 * (used S.obs : Int) = _; rw [hat])) (word_hi (by omega)) (at_low (by omega) (by omega)) (by rw [hat]) rfl rfl rfl
 ·exact (hR.ls.kept hK2).cast (by rw [(onLa_pc S).1])
 ·exact (hR.sd.kept hK2).cast (by rw [(onLa_pc S).1])
theorem la19_any (D : Drained c) (I : LaIn (fsL fl) S) (hA : Arn w p b (wsOf c S)) (hR : LvAt w b T c r0 S ls sd r) (hF : FinsAt w fA fl) (hTl : ∀ j ∈ T, j < w.heap.size) (h : S.pc = 19) :
  Calls Tryz.prog 15 #[.agg #[.int .i64 2, .int .i64 4, .int .i64 0, .int .i64 512], .slice fA fl.length fc, .pointer (some ⟨p, 0, none⟩), r.v] w fun e w' => Arn w' p b (wsOf c (laStep (fsL fl) S)) ∧ Keep [b] w w' ∧ ∃ R ls' sd', e = .returned (.tuple #[R.v, .int .i64 0]) ∧ LvAt w' b T c r0 (laStep (fsL fl) S) ls' sd' R := by
 obtain rfl := hR.r
 have hu := I.use
 have hpc : (rLa r0 S ls sd).pc = 19 := h
 have har : (rLa r0 S ls sd).area = 1 := hR.ar
 obtain ⟨o, ho, es⟩ := I.at19 h
 have hob := I.obs o (List.mem_of_getElem? ho)
 have h8 := I.nobs
 have hi8 := (List.getElem?_eq_some_iff.1 ho).1
 have hol := offs_lt ho
 have hnx := offs_succ ho
 have how : o.w = 2 + o.sl.length := rfl
 have hat : (rLa r0 S ls sd).at_ = 128 + 8 * (offs S.obs S.i : Int) := at_low (by omega) (by omega)
 have hatk : (rLa r0 S ls sd).at_ = 8 * ((16 + offs S.obs S.i : Nat) : Int) := by rw [hat]; omega
 have htop : (rLa r0 S ls sd).top = 128 + 8 * (used S.obs : Int) := top_hi (by omega)
 have hin : (rLa r0 S ls sd).list.n = (S.todo.map (plLa S.obs)).length := hR.ls.n
 have hl64 : (S.todo.map (plLa S.obs)).length ≤ 64 := by rw [List.length_map]; have := I.ntodo; omega
 have hat' : (rLa r0 S ls sd).at_ + (2 + (o.sl.length : Int)) * 8 = 128 + 8 * (offs S.obs (S.i + 1) : Int) := by rw [hat, hnx]; omega
 have hfl : fl.length ≤ 8 := by have := I.fl; simpa using this
 rw [words_low c S I.done (by omega)] at hA
 rw [es]
 by_cases ht : isTodo (fsL fl) o = true
 ·have hdn : o.dn = false ∧ fsOf (fsL fl) o.tg ≠ [] := by
   unfold isTodo at ht
   cases hx : o.dn with
   | true => rw [hx] at ht; simp at ht
   | false => exact ⟨rfl, fun e => by rw [e] at ht; simp at ht⟩
  have ew : walkLa (fsL fl) S o = { S with todo := S.todo ++ [S.i], i := S.i + 1 } := by unfold walkLa; rw [if_pos ht]
  rw [ew]
  refine (lvStepL_any p b 2 4 0 512 fA fl.length fc (rLa r0 S ls sd) w 90 4 19 _ (wsL c (8 * (used S.obs : Int)) 99 (extE S.obs)) (fun s2 => { rLa r0 S ls sd with list := s2, at_ := (rLa r0 S ls sd).at_ + (2 + (o.sl.length : Int)) * 8, pc := onP { rLa r0 S ls sd with list := s2, at_ := (rLa r0 S ls sd).at_ + (2 + (o.sl.length : Int)) * 8 } }) (fun s2 => s2.n = (S.todo.map (plLa S.obs)).length + 1 ∧ s2.n ≤ s2.c) ((S.todo.map (plLa S.obs) ++ [(rLa r0 S ls sd).at_]).flatMap nCells) hpc rfl hR.dn go_walk hA (fun g w1 hb1 hg1 hT1 hA1 hgb hgp => (lvWalkYes_any g p 2 4 0 512 fA fl.length fc b _ (16 + offs S.obs S.i) (2 + (o.sl.length : Int)) (o.sl.length : Int) (o.tg : Int) o.tg o.dn 1 4 fl (S.todo.map (plLa S.obs)) (ob_head hob) rfl _ w1 plan18 hT1 hA1 hgb hgp (ob_h1 ho _ _ _) (ob_h2 ho _ _ _) hatk (by omega) rfl hfl (hF.below hb1) hin hl64 (Cells.below hR.ls.e hb1) (lt_of_heap hT1) hdn.1 hdn.2).mono (fun e w2 hh => by
   obtain ⟨h1, s2, h2, h3, h4, h5, h6, h7, h8⟩ := hh
   exact ⟨h1, s2, h2, ⟨h3, h4⟩, h5, h6, h7, h8⟩))).mono ?_
  rintro e w2 ⟨s2, rfl, ⟨hn2, hc2⟩, hcs2, hfr2, hA2, hK2⟩
  refine ⟨?_, hK2, _, s2, sd, rfl, ⟨?_, hR.ar, hR.dn, hR.nx, ?_, ?_⟩⟩
  ·rw [words_on c { S with todo := S.todo ++ [S.i], i := S.i + 1 } I.done]
   exact hA2
  ·refine rLa_on r0 S { S with todo := S.todo ++ [S.i], i := S.i + 1 } ls sd s2 sd (onP_la { S with todo := S.todo ++ [S.i], i := S.i + 1 } _ (by show s2.n = (S.todo ++ [S.i]).length; rw [hn2, List.length_map, List.length_append]; rfl) rfl hat' htop) (word_hi (by omega)) hat' htop rfl rfl rfl
  ·rw [(onLa_pc _).1]
   have el : (S.todo ++ [S.i]).map (plLa S.obs) = S.todo.map (plLa S.obs) ++ [(rLa r0 S ls sd).at_] := by rw [List.map_append, hat]; rfl
   show SlAt w2 b T s2 ((S.todo ++ [S.i]).map (plLa S.obs))
   rw [el]
   exact ⟨by rw [hn2, List.length_append]; rfl, hc2, hcs2, fun z hz => by have := hfr2 z hz; have := lt_of_heap hA.row; omega, fun _ z hz hm => by have := hfr2 z hz; have := hTl _ hm; omega⟩
  ·exact (hR.sd.kept hK2).cast (by rw [(onLa_pc _).1])
 ·have ew : walkLa (fsL fl) S o = { S with i := S.i + 1 } := by unfold walkLa; rw [if_neg ht]
  rw [ew]
  have hcon : ∀ g w1, Below w.heap.size w w1 → Lvr w1 g p 2 4 0 512 fA fl.length fc (rLa r0 S ls sd) → Arn w1 p b (wsL c (8 * (used S.obs : Int)) 99 (extE S.obs)) → g ≠ b → g ≠ p → Calls Tryz.prog 90 #[.pointer (some ⟨g, 0, none⟩)] w1 fun e w'' => e = .returned (.tuple #[]) ∧ Lvr w'' g p 2 4 0 512 fA fl.length fc { rLa r0 S ls sd with at_ := (rLa r0 S ls sd).at_ + (2 + (o.sl.length : Int)) * 8, pc := onP { rLa r0 S ls sd with at_ := (rLa r0 S ls sd).at_ + (2 + (o.sl.length : Int)) * 8 } } ∧ Arn w'' p b (wsL c (8 * (used S.obs : Int)) 99 (extE S.obs)) ∧ Keep [g, b] w1 w'' := by
   intro g w1 hb1 hT1 hA1 hgb hgp
   cases hx : o.dn with
   | true => exact lvWalkDn_any g p 2 4 0 512 fA fl.length fc b _ (16 + offs S.obs S.i) (2 + (o.sl.length : Int)) (o.sl.length : Int) (o.tg : Int) o.tg o.dn 1 4 fl (S.todo.map (plLa S.obs)) (ob_head hob) rfl _ w1 plan18 hT1 hA1 hgb hgp (ob_h1 ho _ _ _) (ob_h2 ho _ _ _) hatk (by omega) rfl hfl (hF.below hb1) hin hl64 (Cells.below hR.ls.e hb1) (lt_of_heap hT1) hx
   | false =>
    have he : fsOf (fsL fl) o.tg = [] := by
     unfold isTodo at ht
     rw [hx] at ht
     simpa using ht
    exact lvWalkNo_any g p 2 4 0 512 fA fl.length fc b _ (16 + offs S.obs S.i) (2 + (o.sl.length : Int)) (o.sl.length : Int) (o.tg : Int) o.tg o.dn 1 4 fl (S.todo.map (plLa S.obs)) (ob_head hob) rfl _ w1 plan18 hT1 hA1 hgb hgp (ob_h1 ho _ _ _) (ob_h2 ho _ _ _) hatk (by omega) rfl hfl (hF.below hb1) hin hl64 (Cells.below hR.ls.e hb1) (lt_of_heap hT1) hx he
  refine (lvStepS_any p b 2 4 0 512 fA fl.length fc (rLa r0 S ls sd) w 90 4 19 _ (wsL c (8 * (used S.obs : Int)) 99 (extE S.obs)) _ hpc rfl hR.dn go_walk hA (fun g w1 hb1 hg1 hT1 hA1 hgb hgp => hcon g w1 hb1 hT1 hA1 hgb hgp)).mono ?_
  rintro e w2 ⟨rfl, hA2, hK2⟩
  refine ⟨?_, hK2, _, ls, sd, rfl, ⟨?_, hR.ar, hR.dn, hR.nx, ?_, ?_⟩⟩
  ·rw [words_on c { S with i := S.i + 1 } I.done]
   exact hA2
  ·refine rLa_on r0 S { S with i := S.i + 1 } ls sd ls sd (onP_la { S with i := S.i + 1 } _ (by show ls.n = _; rw [hR.ls.n, List.length_map]) rfl hat' htop) (word_hi (by omega)) hat' htop rfl rfl rfl
  ·exact (hR.ls.kept hK2).cast (by rw [(onLa_pc _).1])
  ·exact (hR.sd.kept hK2).cast (by rw [(onLa_pc _).1])
theorem la20_any (D : Drained c) (I : LaIn (fsL fl) S) (hA : Arn w p b (wsOf c S)) (hR : LvAt w b T c r0 S ls sd r) (hF : FinsAt w fA fl) (hTl : ∀ j ∈ T, j < w.heap.size) (h : S.pc = 20) :
  Calls Tryz.prog 15 #[.agg #[.int .i64 2, .int .i64 4, .int .i64 0, .int .i64 512], .slice fA fl.length fc, .pointer (some ⟨p, 0, none⟩), r.v] w fun e w' => Arn w' p b (wsOf c (laStep (fsL fl) S)) ∧ Keep [b] w w' ∧ ∃ R ls' sd', e = .returned (.tuple #[R.v, .int .i64 0]) ∧ LvAt w' b T c r0 (laStep (fsL fl) S) ls' sd' R := by
 obtain rfl := hR.r
 have hu := I.use
 have hpc : (rLa r0 S ls sd).pc = 20 := h
 have har : (rLa r0 S ls sd).area = 1 := hR.ar
 obtain ⟨j, o, f, hj, ho, hf, es⟩ := I.at20 h
 have hob := I.obs o (List.mem_of_getElem? ho)
 have hok := I.opOk hf
 have hfb := (ObOk.fin hob f).sl
 have hol := offs_lt ho
 have hfl : fl.length ≤ 8 := by have := I.fl; simpa using this
 have hin : (rLa r0 S ls sd).list.n = S.todo.length := by show ls.n = _; rw [hR.ls.n, List.length_map]
 have htl : S.todo.length ≤ 8 := by have := I.nb; omega
 obtain ⟨m, hm⟩ : ∃ m, S.todo.length = m + 1 := by
  cases ht : S.todo with
  | nil => rw [ht] at hj; cases hj
  | cons a l => exact ⟨l.length, rfl⟩
 have hjm : S.todo[m]? = some j := by rw [List.getLast?_eq_getElem?, hm] at hj; exact hj
 have hpl : (S.todo.map (plLa S.obs))[m]? = some (plLa S.obs j) := by rw [List.getElem?_map, hjm]; rfl
 have hops : (finOf fl o.tg).l = fsOf (fsL fl) o.tg := finOf_l fl o.tg
 have hsn : S.said.length ≤ 72 := by have := I.sb; have := I.nb; omega
 rw [words_low c S I.done (by omega)] at hA
 rw [es]
 have hwl : (finW f o.sl).length = o.sl.length := finW_len f o.sl
 refine (lvStepL_any p b 2 4 0 512 fA fl.length fc (rLa r0 S ls sd) w 91 5 20 _ (wsL c (8 * (used S.obs : Int)) 99 (extE (S.obs.set j { o with sl := finW f o.sl }))) (fun s2 => { rLa r0 S ls sd with op := ((finN f S.op o.sl : Nat) : Int), said := s2, held := S.held || finH f, pc := if (finOf fl o.tg).l.length ≤ finN f S.op o.sl then 21 else (rLa r0 S ls sd).pc }) (fun s2 => s2.n = S.said.length + (finS f).length ∧ s2.n ≤ s2.c) ((S.said ++ finS f).flatMap nCells) hpc rfl hR.dn go_fin hA (fun g w1 hb1 hg1 hT1 hA1 hgb hgp => by
  have hx := lvFinC_any g p 2 4 0 512 fA fl.length fc b _ (16 + offs S.obs j) m S.op (2 + (o.sl.length : Int)) o.tg o.dn 1 4 (plLa S.obs j) (S.todo.map (plLa S.obs)) o.sl S.said fl (finOf fl o.tg) f (finW f o.sl) (finS f) (finH f) (finN f S.op o.sl) (ob_head hob) _ w1 plan18 hT1 hA1 hgb hgp rfl rfl rfl rfl (ob_h1 ho _ _ _) (ob_h2 ho _ _ _) (by unfold plLa; omega) (fun q y hq => by
    have hql := (List.getElem?_eq_some_iff.1 hq).1
    rw [Nat.add_assoc, ob_get ho _ _ _ (2 + q) (by unfold Ob.w; omega)]
    unfold obW
    rw [show 2 + q = (q + 1) + 1 by omega]
    exact hq) (fun y hy => by have := hfb y hy; omega) hpl (by rw [List.length_map, hm]) (by rw [hin, hm]) hR.ls.c (by omega) (Cells.below hR.ls.e hb1) rfl hfl (hF.below hb1) rfl rfl (by rw [hops]; exact hf) (by rw [hops]; exact I.ops8 _) hok hR.sd.n (by omega) (Cells.below hR.sd.e hb1) (lt_of_heap hT1) hR.sd.b
  rw [putW_all ho _ hwl] at hx
  refine hx.mono (fun e w2 hh => ?_)
  obtain ⟨h1, s2, h2, h3, h4, h5, h6, h7, h8⟩ := hh
  exact ⟨h1, s2, h2, ⟨h3, h4⟩, h5, h6, h7, h8⟩)).mono ?_
 rintro e w2 ⟨s2, rfl, ⟨hn2, hc2⟩, hcs2, hfr2, hA2, hK2⟩
 have hw9 : ({ o with sl := finW f o.sl } : Ob).w = o.w := by unfold Ob.w; rw [hwl]
 have hp9 : (finLa (fsL fl) S j o f).pc = if (fsOf (fsL fl) o.tg).length ≤ finN f S.op o.sl then 21 else 20 := rfl
 have hp8 : (finLa (fsL fl) S j o f).pc = 20 ∨ (finLa (fsL fl) S j o f).pc = 21 := by rw [hp9]; split <;> simp
 have hu9 : used (finLa (fsL fl) S j o f).obs = used S.obs := used_set ho hw9
 have ho9 : offs (finLa (fsL fl) S j o f).obs (finLa (fsL fl) S j o f).i = offs S.obs S.i := offs_set ho hw9
 refine ⟨?_, hK2, _, ls, s2, rfl, ⟨?_, hR.ar, hR.dn, hR.nx, ?_, ?_⟩⟩
 ·rw [words_low c (finLa (fsL fl) S j o f) I.done (by omega), hu9]
  exact hA2
 ·refine rLa_up r0 S (finLa (fsL fl) S j o f) ls sd ls s2 ?_ ?_ ?_ ?_ rfl rfl rfl
  ·rw [hp9, hops, hpc]
  ·rw [if_neg (by omega)]; exact word_hi (by omega)
  ·rw [at_low (by omega) (by omega)]; unfold atLa; rw [if_neg (by omega), if_pos (by omega), ho9]
  ·rw [top_hi (by omega)]; unfold topLa; rw [if_neg (by omega), hu9]
 ·exact (hR.ls.kept hK2).cast (map_set ho hw9 _).symm
 ·exact ⟨by show s2.n = (S.said ++ finS f).length; rw [hn2, List.length_append], hc2, hcs2, fun z hz => by have := hfr2 z hz; have := lt_of_heap hA.row; omega, fun _ z hz hm => by have := hfr2 z hz; have := hTl _ hm; omega⟩
theorem la21_any (D : Drained c) (I : LaIn (fsL fl) S) (hA : Arn w p b (wsOf c S)) (hR : LvAt w b T c r0 S ls sd r) (hF : FinsAt w fA fl) (hTl : ∀ j ∈ T, j < w.heap.size) (h : S.pc = 21) :
  Calls Tryz.prog 15 #[.agg #[.int .i64 2, .int .i64 4, .int .i64 0, .int .i64 512], .slice fA fl.length fc, .pointer (some ⟨p, 0, none⟩), r.v] w fun e w' => Arn w' p b (wsOf c (laStep (fsL fl) S)) ∧ Keep [b] w w' ∧ ∃ R ls' sd', e = .returned (.tuple #[R.v, .int .i64 0]) ∧ LvAt w' b T c r0 (laStep (fsL fl) S) ls' sd' R := by
 obtain rfl := hR.r
 have hu := I.use
 have hpc : (rLa r0 S ls sd).pc = 21 := h
 have har : (rLa r0 S ls sd).area = 1 := hR.ar
 obtain ⟨j, o, hj, ho, es⟩ := I.at21 h
 have hob := I.obs o (List.mem_of_getElem? ho)
 have hol := offs_lt ho
 have hin : (rLa r0 S ls sd).list.n = S.todo.length := by show ls.n = _; rw [hR.ls.n, List.length_map]
 have htl : S.todo.length ≤ 8 := by have := I.nb; omega
 have hnn := I.nb
 obtain ⟨m, hm⟩ : ∃ m, S.todo.length = m + 1 := by
  cases ht : S.todo with
  | nil => rw [ht] at hj; cases hj
  | cons a l => exact ⟨l.length, rfl⟩
 have hjm : S.todo[m]? = some j := by rw [List.getLast?_eq_getElem?, hm] at hj; exact hj
 have hpl : (S.todo.map (plLa S.obs))[m]? = some (plLa S.obs j) := by rw [List.getElem?_map, hjm]; rfl
 have hdl : S.todo.dropLast = S.todo.take m := by rw [List.dropLast_eq_take, hm]; rfl
 rw [words_low c S I.done (by omega)] at hA
 rw [es]
 refine (lvStepL_any p b 2 4 0 512 fA fl.length fc (rLa r0 S ls sd) w 92 6 21 _ (wsL c (8 * (used S.obs : Int)) 99 (extE (S.obs.set j { o with dn := true }))) (fun s2 => { rLa r0 S ls sd with list := s2, n := (S.n : Int) + 1, op := 0, pc := furtherP { rLa r0 S ls sd with list := s2, n := (S.n : Int) + 1, op := 0 } }) (fun s2 => s2.n = m ∧ s2.n ≤ s2.c) (((S.todo.map (plLa S.obs)).take m).flatMap nCells) hpc rfl hR.dn go_mark hA (fun g w1 hb1 hg1 hT1 hA1 hgb hgp => by
  have hx := lvMark_any g p 2 4 0 512 fA fl.length fc b _ (16 + offs S.obs j) m (2 + (o.sl.length : Int)) (o.sl.length : Int) (o.tg : Int) o.dn 1 4 (plLa S.obs j) (S.todo.map (plLa S.obs)) (ob_head hob) _ w1 plan18 hT1 hA1 hgb hgp (ob_h1 ho _ _ _) (ob_h2 ho _ _ _) (by unfold plLa; omega) (by rw [List.length_map, hm]) hpl (by rw [hin, hm]) hR.ls.c (by omega) (by show (0 : Int) ≤ (S.n : Int) ∧ (S.n : Int) ≤ 1024; omega) (Cells.below hR.ls.e hb1) hR.ls.b (lt_of_heap hT1)
  rw [mark_ob ho] at hx
  refine hx.mono (fun e w2 hh => ?_)
  obtain ⟨h1, s2, h2, h3, h4, h5, h6, h7, h8⟩ := hh
  exact ⟨h1, s2, h2, ⟨h3, h4⟩, h5, h6, h7, h8⟩)).mono ?_
 rintro e w2 ⟨s2, rfl, ⟨hn2, hc2⟩, hcs2, hfr2, hA2, hK2⟩
 have hu9 : used (markLa S j o).obs = used S.obs := used_set ho rfl
 have ho9 : offs (markLa S j o).obs (markLa S j o).i = offs S.obs S.i := offs_set ho rfl
 have hln : s2.n = (markLa S j o).todo.length := by show s2.n = S.todo.dropLast.length; rw [hdl, List.length_take, hn2]; omega
 refine ⟨?_, hK2, _, s2, sd, rfl, ⟨?_, hR.ar, hR.dn, hR.nx, ?_, ?_⟩⟩
 ·rw [words_fu c (markLa S j o) I.done, hu9]
  exact hA2
 ·refine rLa_fu r0 S (markLa S j o) ls sd s2 sd (furtherP_la (markLa S j o) _ hln rfl) (word_hi (by omega)) ?_ ?_ rfl (by show (S.n : Int) + 1 = ((S.n + 1 : Nat) : Int); omega) rfl
  ·rw [at_low (by omega) (by omega), ho9]
  ·rw [top_hi (by omega), hu9]
 ·rw [(further_pc _).1]
  show SlAt w2 b T s2 ((markLa S j o).todo.map (plLa (markLa S j o).obs))
  have el : (markLa S j o).todo.map (plLa (markLa S j o).obs) = (S.todo.map (plLa S.obs)).take m := by
   show S.todo.dropLast.map (plLa (S.obs.set j _)) = _
   rw [map_set (o' := { o with dn := true }) ho rfl, hdl, List.map_take]
  rw [el]
  exact ⟨by rw [hn2, List.length_take, List.length_map, hm]; omega, hc2, hcs2, fun z hz => by have := hfr2 z hz; have := lt_of_heap hA.row; omega, fun _ z hz hm => by have := hfr2 z hz; have := hTl _ hm; omega⟩
 ·exact (hR.sd.kept hK2).cast (by rw [(further_pc _).1]; rfl)
theorem la22_any (D : Drained c) (I : LaIn (fsL fl) S) (hA : Arn w p b (wsOf c S)) (hR : LvAt w b T c r0 S ls sd r) (hF : FinsAt w fA fl) (hTl : ∀ j ∈ T, j < w.heap.size) (h : S.pc = 22) :
  Calls Tryz.prog 15 #[.agg #[.int .i64 2, .int .i64 4, .int .i64 0, .int .i64 512], .slice fA fl.length fc, .pointer (some ⟨p, 0, none⟩), r.v] w fun e w' => Arn w' p b (wsOf c (laStep (fsL fl) S)) ∧ Keep [b] w w' ∧ ∃ R, e = .returned (.tuple #[R.v, .int .i64 0]) ∧ EndAt w' b T r0 (laStep (fsL fl) S) R := by
 obtain rfl := hR.r
 have hu := I.use
 have hpc : (rLa r0 S ls sd).pc = 22 := h
 have har : (rLa r0 S ls sd).area = 1 := hR.ar
 have hnn := I.nb
 have hsn : S.said.length ≤ 72 := by have := I.sb; omega
 have hw : wsOf c S = wsL c (8 * (used S.obs : Int)) 99 (extE S.obs) := by
  unfold wsOf ctlOf topOf gateOf extOf
  rw [if_neg (by rw [I.done]; simp), if_neg (by omega), if_pos (by omega), if_pos (by omega)]
 rw [hw] at hA
 have es : laStep (fsL fl) S = { S with done := true } := by
  unfold laStep
  rw [if_neg (by omega)]
  rw [if_neg (by omega)]
  rw [if_neg (by omega)]
  rw [if_neg (by omega)]
  rw [if_neg (by omega)]
  rw [if_pos h]
 rw [es]
 have hw2 : wsOf c { S with done := true } = (wsL c (8 * (used S.obs : Int)) 99 (extE S.obs)).set 8 (word (hold c).1) := by
  rw [wsL_setC]
  unfold wsOf ctlOf topOf gateOf extOf
  dsimp only
  rw [if_pos rfl, if_pos h, if_neg (by omega), if_pos (by omega), if_pos (by omega)]
 rw [hw2]
 refine (lvStepL_any p b 2 4 0 512 fA fl.length fc (rLa r0 S ls sd) w 93 7 22 _ ((wsL c (8 * (used S.obs : Int)) 99 (extE S.obs)).set 8 (word (hold c).1)) (fun sa => toldR (rLa r0 S ls sd) 25 (rLa r0 S ls sd).n sa) (fun sa => sa.n = S.said.length) (S.said.flatMap nCells) hpc rfl hR.dn go_hold hA (fun g w1 hb1 hg1 hT1 hA1 hgb hgp => (lvHold_any g p 2 4 0 512 fA fl.length fc b _ 8 (word c) c (hold c).1 _ w1 plan18 hT1 hA1 hgb hgp D.r D.hold.1 hR.nx D.hold.2 wsL_c (by rw [har]; rfl) (by rw [har]; omega) S.said hR.sd.n (by omega) (Cells.below hR.sd.e hb1) (fun z h0 hz => ⟨fun e9 => by
    obtain ⟨bq, oq, eq, hbq, _⟩ := Cells.at_ hR.sd.e (by rw [n_len]; omega)
    have hz : sd.a = some z := hz
    rw [eq] at hz
    injection hz with hz
    subst hz
    simp at e9
    omega, hR.sd.b z hz⟩)).mono (fun e w2 hh => by
   obtain ⟨h1, s2, h2, h3, h4, h5, h6, h7⟩ := hh
   exact ⟨h1, s2, h2, h3, h4, h5, h6, h7⟩))).mono ?_
 rintro e w2 ⟨sa, rfl, hn2, hcs2, hfr2, hA2, hK2⟩
 refine ⟨hA2, hK2, _, rfl, ⟨ls, sd, sa, ?_, by rw [hR.ls.n, List.length_map, I.t22 (by omega)]; rfl, (hR.sd.kept hK2).to, ⟨hn2, hcs2, fun z hz => by have := hfr2 z hz; have := lt_of_heap hA.row; omega, fun _ z hz hm => by have := hfr2 z hz; have := hTl _ hm; omega⟩⟩⟩
 rw [show (if ({ S with done := true } : La).pc = 22 then (25 : Int) else 0) = 25 from by dsimp only; rw [if_pos h]]
 rfl
theorem la26_any (D : Drained c) (I : LaIn (fsL fl) S) (hA : Arn w p b (wsOf c S)) (hR : LvAt w b T c r0 S ls sd r) (hF : FinsAt w fA fl) (hTl : ∀ j ∈ T, j < w.heap.size) (h : S.pc = 26) :
  Calls Tryz.prog 15 #[.agg #[.int .i64 2, .int .i64 4, .int .i64 0, .int .i64 512], .slice fA fl.length fc, .pointer (some ⟨p, 0, none⟩), r.v] w fun e w' => Arn w' p b (wsOf c (laStep (fsL fl) S)) ∧ Keep [b] w w' ∧ ∃ R, e = .returned (.tuple #[R.v, .int .i64 0]) ∧ EndAt w' b T r0 (laStep (fsL fl) S) R := by
 obtain rfl := hR.r
 have hu := I.use
 have hpc : (rLa r0 S ls sd).pc = 26 := h
 have har : (rLa r0 S ls sd).area = 1 := hR.ar
 have hnn := I.nb
 have hsn : S.said.length ≤ 72 := by have := I.sb; omega
 have hw : wsOf c S = wsL c 0 0 (zeroE S.obs S.z) := by
  unfold wsOf ctlOf topOf gateOf extOf
  rw [if_neg (by rw [I.done]; simp), if_pos (by omega), if_neg (by omega), if_neg (by omega)]
 rw [hw] at hA
 have es : laStep (fsL fl) S = { S with done := true } := by
  unfold laStep
  rw [if_neg (by omega)]
  rw [if_neg (by omega)]
  rw [if_neg (by omega)]
  rw [if_neg (by omega)]
  rw [if_neg (by omega)]
  rw [if_neg (by omega)]
  rw [if_neg (by omega)]
  rw [if_neg (by omega)]
  rw [if_neg (by omega)]
  skip
 rw [es]
 have hw2 : wsOf c { S with done := true } = (wsL c 0 0 (zeroE S.obs S.z)).set 8 (word (openC c).1) := by
  rw [wsL_setC]
  unfold wsOf ctlOf topOf gateOf extOf
  dsimp only
  rw [if_pos rfl, if_neg (by omega), if_pos (by omega), if_neg (by omega), if_neg (by omega)]
 rw [hw2]
 refine (lvStepL_any p b 2 4 0 512 fA fl.length fc (rLa r0 S ls sd) w 97 11 26 _ ((wsL c 0 0 (zeroE S.obs S.z)).set 8 (word (openC c).1)) (fun sa => toldR (rLa r0 S ls sd) 0 (rLa r0 S ls sd).n sa) (fun sa => sa.n = S.said.length) (S.said.flatMap nCells) hpc rfl hR.dn go_open hA (fun g w1 hb1 hg1 hT1 hA1 hgb hgp => (lvOpen_any g p 2 4 0 512 fA fl.length fc b _ 8 (word c) c (openC c).1 _ w1 plan18 hT1 hA1 hgb hgp D.r D.opn.1 hR.nx D.opn.2 wsL_c (by rw [har]; rfl) (by rw [har]; omega) S.said hR.sd.n (by omega) (Cells.below hR.sd.e hb1) (fun z h0 hz => ⟨fun e9 => by
    obtain ⟨bq, oq, eq, hbq, _⟩ := Cells.at_ hR.sd.e (by rw [n_len]; omega)
    have hz : sd.a = some z := hz
    rw [eq] at hz
    injection hz with hz
    subst hz
    simp at e9
    omega, hR.sd.b z hz⟩)).mono (fun e w2 hh => by
   obtain ⟨h1, s2, h2, h3, h4, h5, h6, h7⟩ := hh
   exact ⟨h1, s2, h2, h3, h4, h5, h6, h7⟩))).mono ?_
 rintro e w2 ⟨sa, rfl, hn2, hcs2, hfr2, hA2, hK2⟩
 refine ⟨hA2, hK2, _, rfl, ⟨ls, sd, sa, ?_, by rw [hR.ls.n, List.length_map, I.t22 (by omega)]; rfl, (hR.sd.kept hK2).to, ⟨hn2, hcs2, fun z hz => by have := hfr2 z hz; have := lt_of_heap hA.row; omega, fun _ z hz hm => by have := hfr2 z hz; have := hTl _ hm; omega⟩⟩⟩
 rw [show (if ({ S with done := true } : La).pc = 22 then (25 : Int) else 0) = 0 from by dsimp only; rw [if_neg (by omega)]]
 rfl
theorem zerosLa_pc (s : La) : zerosLa s = { s with pc := (zerosLa s).pc } ∧ ((zerosLa s).pc = 24 ∨ (zerosLa s).pc = 25) := by
 refine ⟨rfl, ?_⟩
 unfold zerosLa
 dsimp only
 split <;> simp
theorem words_ze (c : Ctl) (s : La) (hd : s.done = false) : wsOf c (zerosLa s) = wsL c (8 * (used s.obs : Int)) 0 (zeroE s.obs s.z) := by
 obtain ⟨e, hp⟩ := zerosLa_pc s
 rw [e]
 unfold wsOf ctlOf topOf gateOf extOf
 dsimp only
 rw [if_neg (by rw [hd]; simp), if_neg (by omega), if_neg (by omega), if_neg (by omega)]
theorem zerosP_la (s : La) {x y : Int} (hx : x = 128 + 8 * (s.z : Int)) (hy : y = 128 + 8 * (used s.obs : Int)) : zerosP x y = (zerosLa s).pc := by
 unfold zerosP zerosLa
 dsimp only
 by_cases h : s.z < used s.obs
 ·rw [if_pos h, if_pos (by omega)]
 ·rw [if_neg h, if_neg (by omega)]
theorem rLa_ze (r0 : Rn) (S s : La) (ls sd ls' sd' : Sl) {a wd x y o' n' : Int} {hh : Bool} (h1 : a = (zerosLa s).pc) (e2 : wd = 128) (e3 : x = 128 + 8 * (s.z : Int)) (e4 : y = 128 + 8 * (used s.obs : Int)) (e5 : o' = (s.op : Int)) (e6 : n' = (s.n : Int)) (e7 : hh = s.held) :
  ({ rLa r0 S ls sd with pc := a, word := wd, at_ := x, top := y, list := ls', op := o', said := sd', n := n', held := hh } : Rn) = rLa r0 (zerosLa s) ls' sd' := by
 obtain ⟨e, hp⟩ := zerosLa_pc s
 rw [e]
 exact rLa_up r0 S { s with pc := (zerosLa s).pc } ls sd ls' sd' h1 (by rw [if_neg (by show ¬ (zerosLa s).pc = 17; omega)]; exact e2) (by unfold atLa; dsimp only; rw [if_neg (by omega), if_neg (by omega)]; exact e3) (by unfold topLa; dsimp only; rw [if_neg (by omega)]; exact e4) e5 e6 e7
theorem at_hi (h2 : ¬ S.pc ≤ 23) : (rLa r0 S ls sd).at_ = 128 + 8 * (S.z : Int) := by
 show atLa S = _
 unfold atLa
 rw [if_neg (by omega), if_neg h2]
theorem la23_any (D : Drained c) (I : LaIn (fsL fl) S) (hA : Arn w p b (wsOf c S)) (hR : LvAt w b T c r0 S ls sd r) (hF : FinsAt w fA fl) (hTl : ∀ j ∈ T, j < w.heap.size) (h : S.pc = 23) :
  Calls Tryz.prog 15 #[.agg #[.int .i64 2, .int .i64 4, .int .i64 0, .int .i64 512], .slice fA fl.length fc, .pointer (some ⟨p, 0, none⟩), r.v] w fun e w' => Arn w' p b (wsOf c (laStep (fsL fl) S)) ∧ Keep [b] w w' ∧ ∃ R ls' sd', e = .returned (.tuple #[R.v, .int .i64 0]) ∧ LvAt w' b T c r0 (laStep (fsL fl) S) ls' sd' R := by
 obtain rfl := hR.r
 have hu := I.use
 have hpc : (rLa r0 S ls sd).pc = 23 := h
 have har : (rLa r0 S ls sd).area = 1 := hR.ar
 have hwd : (rLa r0 S ls sd).word = 128 := word_hi (by omega)
 have htop : (rLa r0 S ls sd).top = 128 + 8 * (used S.obs : Int) := top_hi (by omega)
 have hz0 := I.z0 (by omega)
 have es : laStep (fsL fl) S = zerosLa S := by
  unfold laStep
  rw [if_neg (by omega)]
  rw [if_neg (by omega)]
  rw [if_neg (by omega)]
  rw [if_neg (by omega)]
  rw [if_neg (by omega)]
  rw [if_neg (by omega)]
  rw [if_pos h]
 rw [es]
 have ew : wsOf c S = wsL c (8 * (used S.obs : Int)) 99 (extE S.obs) := by
  unfold wsOf ctlOf topOf gateOf extOf
  rw [if_neg (by rw [I.done]; simp), if_neg (by omega), if_pos (show S.pc ≤ 23 by omega), if_pos (show S.pc ≤ 23 by omega)]
 rw [ew] at hA
 refine (lvStepS_any p b 2 4 0 512 fA fl.length fc (rLa r0 S ls sd) w 94 8 23 _ ((wsL c (8 * (used S.obs : Int)) 99 (extE S.obs)).set 12 0) _ hpc rfl hR.dn go_clear hA (fun g w1 hb1 hg1 hT1 hA1 hgb hgp => lvClear_any g p 2 4 0 512 fA fl.length fc b (wsL c (8 * (used S.obs : Int)) 99 (extE S.obs)) 12 99 _ w1 plan18 hT1 hA1 hgb hgp (by rw [hwd]; omega) wsL_g (by rw [har]; rfl) (by rw [har]; omega))).mono ?_
 rintro e w2 ⟨rfl, hA2, hK2⟩
 refine ⟨?_, hK2, _, ls, sd, rfl, ⟨?_, hR.ar, hR.dn, hR.nx, ?_, ?_⟩⟩
 ·rw [words_ze c S I.done, hz0, zeroE_0]
  rw [wsL_setG] at hA2
  exact hA2
 ·exact rLa_ze r0 S S ls sd ls sd (zerosP_la S (by rw [hwd, hz0]; rfl) htop) hwd (by rw [hwd, hz0]; rfl) htop rfl rfl rfl
 ·exact (hR.ls.kept hK2).cast (by rw [(zerosLa_pc S).1])
 ·exact (hR.sd.kept hK2).cast (by rw [(zerosLa_pc S).1])
theorem la24_any (D : Drained c) (I : LaIn (fsL fl) S) (hA : Arn w p b (wsOf c S)) (hR : LvAt w b T c r0 S ls sd r) (hF : FinsAt w fA fl) (hTl : ∀ j ∈ T, j < w.heap.size) (h : S.pc = 24) :
  Calls Tryz.prog 15 #[.agg #[.int .i64 2, .int .i64 4, .int .i64 0, .int .i64 512], .slice fA fl.length fc, .pointer (some ⟨p, 0, none⟩), r.v] w fun e w' => Arn w' p b (wsOf c (laStep (fsL fl) S)) ∧ Keep [b] w w' ∧ ∃ R ls' sd', e = .returned (.tuple #[R.v, .int .i64 0]) ∧ LvAt w' b T c r0 (laStep (fsL fl) S) ls' sd' R := by
 obtain rfl := hR.r
 have hu := I.use
 have hpc : (rLa r0 S ls sd).pc = 24 := h
 have har : (rLa r0 S ls sd).area = 1 := hR.ar
 have hz := I.z24 h
 have hzl := zeroE_len hu (Nat.le_of_lt hz)
 have hat : (rLa r0 S ls sd).at_ = 128 + 8 * (S.z : Int) := at_hi (by omega)
 have htop : (rLa r0 S ls sd).top = 128 + 8 * (used S.obs : Int) := top_hi (by omega)
 have es : laStep (fsL fl) S = zerosLa { S with z := S.z + 1 } := by
  unfold laStep
  rw [if_neg (by omega)]
  rw [if_neg (by omega)]
  rw [if_neg (by omega)]
  rw [if_neg (by omega)]
  rw [if_neg (by omega)]
  rw [if_neg (by omega)]
  rw [if_neg (by omega)]
  rw [if_pos h]
 rw [es]
 have ew : wsOf c S = wsL c (8 * (used S.obs : Int)) 0 (zeroE S.obs S.z) := by
  unfold wsOf ctlOf topOf gateOf extOf
  rw [if_neg (by rw [I.done]; simp), if_neg (by omega), if_neg (show ¬ S.pc ≤ 23 by omega), if_neg (show ¬ S.pc ≤ 23 by omega)]
 rw [ew] at hA
 refine (lvStepS_any p b 2 4 0 512 fA fl.length fc (rLa r0 S ls sd) w 95 9 24 _ ((wsL c (8 * (used S.obs : Int)) 0 (zeroE S.obs S.z)).set (16 + S.z) 0) _ hpc rfl hR.dn go_zero hA (fun g w1 hb1 hg1 hT1 hA1 hgb hgp => lvZero_any g p 2 4 0 512 fA fl.length fc b (wsL c (8 * (used S.obs : Int)) 0 (zeroE S.obs S.z)) (16 + S.z) ((zeroE S.obs S.z)[S.z]'(by rw [hzl]; omega)) _ w1 plan18 hT1 hA1 hgb hgp (by rw [hat]; omega) (by rw [wsL_e]; exact List.getElem?_eq_getElem _) (by rw [hat]; omega))).mono ?_
 rintro e w2 ⟨rfl, hA2, hK2⟩
 refine ⟨?_, hK2, _, ls, sd, rfl, ⟨?_, hR.ar, hR.dn, hR.nx, ?_, ?_⟩⟩
 ·rw [words_ze c { S with z := S.z + 1 } I.done]
  rw [wsL_setE, zeroE_set hu hz] at hA2
  exact hA2
 ·exact rLa_ze r0 S { S with z := S.z + 1 } ls sd ls sd (zerosP_la { S with z := S.z + 1 } (by rw [hat]; show _ = 128 + 8 * ((S.z + 1 : Nat) : Int); omega) htop) (word_hi (by omega)) (by rw [hat]; show _ = 128 + 8 * ((S.z + 1 : Nat) : Int); omega) htop rfl rfl rfl
 ·exact (hR.ls.kept hK2).cast (by rw [(zerosLa_pc _).1])
 ·exact (hR.sd.kept hK2).cast (by rw [(zerosLa_pc _).1])
theorem la25_any (D : Drained c) (I : LaIn (fsL fl) S) (hA : Arn w p b (wsOf c S)) (hR : LvAt w b T c r0 S ls sd r) (hF : FinsAt w fA fl) (hTl : ∀ j ∈ T, j < w.heap.size) (h : S.pc = 25) :
  Calls Tryz.prog 15 #[.agg #[.int .i64 2, .int .i64 4, .int .i64 0, .int .i64 512], .slice fA fl.length fc, .pointer (some ⟨p, 0, none⟩), r.v] w fun e w' => Arn w' p b (wsOf c (laStep (fsL fl) S)) ∧ Keep [b] w w' ∧ ∃ R ls' sd', e = .returned (.tuple #[R.v, .int .i64 0]) ∧ LvAt w' b T c r0 (laStep (fsL fl) S) ls' sd' R := by
 obtain rfl := hR.r
 have hu := I.use
 have hpc : (rLa r0 S ls sd).pc = 25 := h
 have har : (rLa r0 S ls sd).area = 1 := hR.ar
 have es : laStep (fsL fl) S = { S with pc := 26 } := by
  unfold laStep
  rw [if_neg (by omega)]
  rw [if_neg (by omega)]
  rw [if_neg (by omega)]
  rw [if_neg (by omega)]
  rw [if_neg (by omega)]
  rw [if_neg (by omega)]
  rw [if_neg (by omega)]
  rw [if_neg (by omega)]
  rw [if_pos h]
 rw [es]
 have ew : wsOf c S = wsL c (8 * (used S.obs : Int)) 0 (zeroE S.obs S.z) := by
  unfold wsOf ctlOf topOf gateOf extOf
  rw [if_neg (by rw [I.done]; simp), if_neg (by omega), if_neg (show ¬ S.pc ≤ 23 by omega), if_neg (show ¬ S.pc ≤ 23 by omega)]
 rw [ew] at hA
 refine (lvStepS_any p b 2 4 0 512 fA fl.length fc (rLa r0 S ls sd) w 96 10 25 _ ((wsL c (8 * (used S.obs : Int)) 0 (zeroE S.obs S.z)).set 11 0) _ hpc rfl hR.dn go_reset hA (fun g w1 hb1 hg1 hT1 hA1 hgb hgp => lvReset_any g p 2 4 0 512 fA fl.length fc b (wsL c (8 * (used S.obs : Int)) 0 (zeroE S.obs S.z)) 11 (8 * (used S.obs : Int)) _ w1 plan18 hT1 hA1 hgb hgp wsL_t (by rw [har]; rfl) (by rw [har]; omega))).mono ?_
 rintro e w2 ⟨rfl, hA2, hK2⟩
 refine ⟨?_, hK2, _, ls, sd, rfl, ⟨?_, hR.ar, hR.dn, hR.nx, ?_, ?_⟩⟩
 ·have e9 : wsOf c { S with pc := 26 } = wsL c 0 0 (zeroE S.obs S.z) := by
   unfold wsOf ctlOf topOf gateOf extOf
   dsimp only
   rw [if_neg (by rw [I.done]; simp), if_pos rfl, if_neg (by omega), if_neg (by omega)]
  rw [e9]
  rw [wsL_setT] at hA2
  exact hA2
 ·exact rLa_up r0 S { S with pc := 26 } ls sd ls sd rfl (by rw [if_neg (by show ¬ (26 : Int) = 17; omega)]; exact word_hi (by omega)) (by rw [at_hi (by omega)]; unfold atLa; dsimp only; rw [if_neg (by omega), if_neg (by omega)]) (by rw [top_hi (by omega)]; unfold topLa; dsimp only; rw [if_neg (by omega)]) rfl rfl rfl
 ·exact hR.ls.kept hK2
 ·exact hR.sd.kept hK2
/-- a step that goes on -/
theorem laGo_any (D : Drained c) (I : LaIn (fsL fl) S) (hA : Arn w p b (wsOf c S)) (hR : LvAt w b T c r0 S ls sd r) (hF : FinsAt w fA fl) (hTl : ∀ j ∈ T, j < w.heap.size) (hd : (laStep (fsL fl) S).done = false) :
  Calls Tryz.prog 15 #[.agg #[.int .i64 2, .int .i64 4, .int .i64 0, .int .i64 512], .slice fA fl.length fc, .pointer (some ⟨p, 0, none⟩), r.v] w fun e w' => Arn w' p b (wsOf c (laStep (fsL fl) S)) ∧ Keep [b] w w' ∧ ∃ R ls' sd', e = .returned (.tuple #[R.v, .int .i64 0]) ∧ LvAt w' b T c r0 (laStep (fsL fl) S) ls' sd' R := by
 have hp := I.pc
 have hc : S.pc = 17 ∨ S.pc = 18 ∨ S.pc = 19 ∨ S.pc = 20 ∨ S.pc = 21 ∨ S.pc = 22 ∨ S.pc = 23 ∨ S.pc = 24 ∨ S.pc = 25 ∨ S.pc = 26 := by omega
 rcases hc with h | h | h | h | h | h | h | h | h | h
 ·exact la17_any D I hA hR hF hTl h
 ·exact la18_any D I hA hR hF hTl h
 ·exact la19_any D I hA hR hF hTl h
 ·exact la20_any D I hA hR hF hTl h
 ·exact la21_any D I hA hR hF hTl h
 ·exfalso
  have : laStep (fsL fl) S = { S with done := true } := by
   unfold laStep
   rw [if_neg (by omega)]
   rw [if_neg (by omega)]
   rw [if_neg (by omega)]
   rw [if_neg (by omega)]
   rw [if_neg (by omega)]
   rw [if_pos h]
  rw [this] at hd; cases hd
 ·exact la23_any D I hA hR hF hTl h
 ·exact la24_any D I hA hR hF hTl h
 ·exact la25_any D I hA hR hF hTl h
 ·exfalso
  have : laStep (fsL fl) S = { S with done := true } := by
   unfold laStep
   rw [if_neg (by omega)]
   rw [if_neg (by omega)]
   rw [if_neg (by omega)]
   rw [if_neg (by omega)]
   rw [if_neg (by omega)]
   rw [if_neg (by omega)]
   rw [if_neg (by omega)]
   rw [if_neg (by omega)]
   rw [if_neg (by omega)]
   skip
  rw [this] at hd; cases hd
/-- the last step -/
theorem laEnd_any (D : Drained c) (I : LaIn (fsL fl) S) (hA : Arn w p b (wsOf c S)) (hR : LvAt w b T c r0 S ls sd r) (hF : FinsAt w fA fl) (hTl : ∀ j ∈ T, j < w.heap.size) (h : S.pc = 22 ∨ S.pc = 26) :
  Calls Tryz.prog 15 #[.agg #[.int .i64 2, .int .i64 4, .int .i64 0, .int .i64 512], .slice fA fl.length fc, .pointer (some ⟨p, 0, none⟩), r.v] w fun e w' => Arn w' p b (wsOf c (laStep (fsL fl) S)) ∧ Keep [b] w w' ∧ ∃ R, e = .returned (.tuple #[R.v, .int .i64 0]) ∧ EndAt w' b T r0 (laStep (fsL fl) S) R := by
 rcases h with h | h
 ·exact la22_any D I hA hR hF hTl h
 ·exact la26_any D I hA hR hF hTl h
theorem la_end_pc (I : LaIn (fsL fl) S) (hd : (laStep (fsL fl) S).done = true) : S.pc = 22 ∨ S.pc = 26 := by
 have hp := I.pc
 have h0 := I.done
 have hz := fun s : La => (show (zerosLa s).done = s.done from rfl)
 have hf := fun s : La => (show (further s).done = s.done from rfl)
 have ho := fun s : La => (show (onLa s).done = s.done from by unfold onLa; split <;> rfl)
 have hc : S.pc = 17 ∨ S.pc = 18 ∨ S.pc = 19 ∨ S.pc = 20 ∨ S.pc = 21 ∨ S.pc = 22 ∨ S.pc = 23 ∨ S.pc = 24 ∨ S.pc = 25 ∨ S.pc = 26 := by omega
 rcases hc with h | h | h | h | h | h | h | h | h | h
 ·exfalso; unfold laStep at hd; rw [if_pos h] at hd; rw [show ({ S with pc := 18 } : La).done = S.done from rfl, h0] at hd; cases hd
 ·exfalso; unfold laStep at hd; rw [if_neg (by omega), if_pos h, ho, h0] at hd; cases hd
 ·exfalso; obtain ⟨o, _, e⟩ := I.at19 h; rw [e, ho] at hd; rw [show (walkLa (fsL fl) S o).done = S.done from rfl, h0] at hd; cases hd
 ·exfalso; obtain ⟨j, o, f, _, _, _, e⟩ := I.at20 h; rw [e] at hd; rw [show (finLa (fsL fl) S j o f).done = S.done from rfl, h0] at hd; cases hd
 ·exfalso; obtain ⟨j, o, _, _, e⟩ := I.at21 h; rw [e, hf] at hd; rw [show (markLa S j o).done = S.done from rfl, h0] at hd; cases hd
 ·exact .inl h
 ·exfalso; unfold laStep at hd; rw [if_neg (by omega), if_neg (by omega), if_neg (by omega), if_neg (by omega), if_neg (by omega), if_neg (by omega), if_pos h, hz, h0] at hd; cases hd
 ·exfalso; unfold laStep at hd; rw [if_neg (by omega), if_neg (by omega), if_neg (by omega), if_neg (by omega), if_neg (by omega), if_neg (by omega), if_neg (by omega), if_pos h, hz] at hd; rw [show ({ S with z := S.z + 1 } : La).done = S.done from rfl, h0] at hd; cases hd
 ·exfalso; unfold laStep at hd; rw [if_neg (by omega), if_neg (by omega), if_neg (by omega), if_neg (by omega), if_neg (by omega), if_neg (by omega), if_neg (by omega), if_neg (by omega), if_pos h] at hd; rw [show ({ S with pc := 26 } : La).done = S.done from rfl, h0] at hd; cases hd
 ·exact .inr h
end
end Go.Proofs.YtbijaloeilnjoaaGreat

namespace Go.Proofs.YtbijaloeilnjoaaGreat
open Go.RowKit
set_option linter.unusedVariables false
set_option linter.unusedSimpArgs false

def runA (ch : Sl) (c0 c1 : Ctl) : Rn := { call0 ch with word := word c0, next := word c1, pc := 16 }
def runB (ch : Sl) (c0 c1 : Ctl) : Rn := { runA ch c0 c1 with pc := 17 }
/-- behind n steps -/
def AlAt (fs : List (List Fo)) (obs : List Ob) (c0 c1 : Ctl) (ch : Sl) (T : List Nat) (w : World) (p b n : Nat) (r : Rn) : Prop :=
 (n = 0 ∧ r = call0 ch ∧ Arn w p b (wsL c0 (8 * (used obs : Int)) 99 (extE obs))) ∨
 (n = 1 ∧ r = runA ch c0 c1 ∧ Arn w p b (wsL c0 (8 * (used obs : Int)) 99 (extE obs))) ∨
 (∃ k ls sd, n = 2 + k ∧ k < laN fs obs ∧ LvAt w b T c1 (runB ch c0 c1) (laIter fs k (la0 obs)) ls sd r ∧ Arn w p b (wsOf c1 (laIter fs k (la0 obs)))) ∨
 (n = 2 + laN fs obs ∧ EndAt w b T (runB ch c0 c1) (laEnd fs obs) r ∧ Arn w p b (wsOf c1 (laEnd fs obs)))
section
variable {T : List Nat} {fl : List FSl} {obs : List Ob} {c0 c1 : Ctl} {ch : Sl} {w w' : World} {p b n : Nat} {r : Rn} {fA : Option Addr} {fc : Nat}
theorem AlAt.arn (H : AlAt (fsL fl) obs c0 c1 ch T w p b n r) : ∃ ws, Arn w p b ws := by
 rcases H with ⟨_, _, h⟩ | ⟨_, _, h⟩ | ⟨_, _, _, _, _, _, h⟩ | ⟨_, _, h⟩ <;> exact ⟨_, h⟩
theorem AlAt.done (I : AlIn (fsL fl) obs c0 c1) (H : AlAt (fsL fl) obs c0 c1 ch T w p b n r) : (r.done = false ∧ n < 2 + laN (fsL fl) obs) ∨ (r.done = true ∧ n = 2 + laN (fsL fl) obs) := by
 have h3 := (laN_bd I.f8 obs).1
 rcases H with ⟨h, rfl, _⟩ | ⟨h, rfl, _⟩ | ⟨k, ls, sd, h, hk, hl, _⟩ | ⟨h, he, _⟩
 ·exact .inl ⟨rfl, by omega⟩
 ·exact .inl ⟨rfl, by omega⟩
 ·refine .inl ⟨?_, by omega⟩
  rw [hl.r]
  exact hl.dn
 ·obtain ⟨⟨ls, sd, sa, e, _⟩⟩ := he
  refine .inr ⟨?_, h⟩
  rw [e]
  rfl
theorem LvAt.kept {S : La} {ls sd : Sl} {r0 : Rn} (H : LvAt w b T c1 r0 S ls sd r) (k : Keep [b] w w') : LvAt w' b T c1 r0 S ls sd r := ⟨H.r, H.ar, H.dn, H.nx, H.ls.kept k, H.sd.kept k⟩
theorem LvAt.below {S : La} {ls sd : Sl} {r0 : Rn} (H : LvAt w b T c1 r0 S ls sd r) (k : Below w.heap.size w w') : LvAt w' b T c1 r0 S ls sd r := ⟨H.r, H.ar, H.dn, H.nx, H.ls.below k, H.sd.below k⟩
theorem SlAt.kept9 {s : Sl} {l : List Int} {g : Nat} (h : SlAt w b T s l) (k : Keep [g] w w') (hg : g ∈ T) : SlAt w' b T s l := ⟨h.n, h.c, Cells.keptG h.e k (fun h0 a ha => by have h1 := h.t h0 a ha; simp only [List.mem_singleton]; intro e; rw [e] at h1; exact h1 hg), h.b, h.t⟩
theorem SlAt'.kept9 {s : Sl} {l : List Int} {g : Nat} (h : SlAt' w b T s l) (k : Keep [g] w w') (hg : g ∈ T) : SlAt' w' b T s l := ⟨h.n, Cells.keptG h.e k (fun h0 a ha => by have h1 := h.t h0 a ha; simp only [List.mem_singleton]; intro e; rw [e] at h1; exact h1 hg), h.b, h.t⟩
theorem EndAt.below {S : La} {r0 : Rn} (H : EndAt w b T r0 S r) (k : Below w.heap.size w w') : EndAt w' b T r0 S r := by
 obtain ⟨⟨ls, sd, sa, e, h1, h2, h3⟩⟩ := H
 exact ⟨ls, sd, sa, e, h1, h2.below k, h3.below k⟩
theorem AlAt.below (H : AlAt (fsL fl) obs c0 c1 ch T w p b n r) (k : Below w.heap.size w w') : AlAt (fsL fl) obs c0 c1 ch T w' p b n r := by
 rcases H with ⟨h1, h2, h⟩ | ⟨h1, h2, h⟩ | ⟨q, ls, sd, h1, h2, h3, h⟩ | ⟨h1, h2, h⟩
 ·exact .inl ⟨h1, h2, h.below k⟩
 ·exact .inr (.inl ⟨h1, h2, h.below k⟩)
 ·exact .inr (.inr (.inl ⟨q, ls, sd, h1, h2, h3.below k, h.below k⟩))
 ·exact .inr (.inr (.inr ⟨h1, h2.below k, h.below k⟩))
theorem AlAt.kept9 {g : Nat} (H : AlAt (fsL fl) obs c0 c1 ch T w p b n r) (k : Keep [g] w w') (hg : g ∈ T) (hp : p ≠ g) (hb : b ≠ g) : AlAt (fsL fl) obs c0 c1 ch T w' p b n r := by
 have hA : ∀ ws, Arn w p b ws → Arn w' p b ws := fun ws h => h.kept k (by simpa using hp) (by simpa using hb)
 rcases H with ⟨h1, h2, h⟩ | ⟨h1, h2, h⟩ | ⟨q, ls, sd, h1, h2, h3, h⟩ | ⟨h1, h2, h⟩
 ·exact .inl ⟨h1, h2, hA _ h⟩
 ·exact .inr (.inl ⟨h1, h2, hA _ h⟩)
 ·exact .inr (.inr (.inl ⟨q, ls, sd, h1, h2, ⟨h3.r, h3.ar, h3.dn, h3.nx, h3.ls.kept9 k hg, h3.sd.kept9 k hg⟩, hA _ h⟩))
 ·obtain ⟨⟨ls, sd, sa, e, g1, g2, g3⟩⟩ := h2
  exact .inr (.inr (.inr ⟨h1, ⟨ls, sd, sa, e, g1, g2.kept9 k hg, g3.kept9 k hg⟩, hA _ h⟩))
end
end Go.Proofs.YtbijaloeilnjoaaGreat

namespace Go.Proofs.YtbijaloeilnjoaaGreat
open Go.RowKit
set_option linter.unusedVariables false
set_option linter.unusedSimpArgs false

theorem step_load_row {P : Program} {ops : Array Oper} {o : Oper} {a : Act} {w : World} {K : Act → World → Prop} {Q : Exit → Act → World → Prop} {E : Prop} (d : Option Tmp) (hd : o.dst = d) (hgd : o.guard = none) (ty : TypeId) (x : Operand) (ho : o.op = .load ty x)
  (g : Nat) (hx : a.eval x = .pointer (some ⟨g, 0, none⟩)) (t : TypeId) (cs : Array Value) (fr : Nat × Nat) (ds : TypeDesc) (hg : w.heap[g]? = some (.cells cs t fr))
  (hu : P.underlying ty = some ds) (hds : (match ds with | .struct _ | .array _ _ => true | _ => false) = true) (hi : (P.info? ty).map (·.size) = some cs.size)
  (h : K (a.put d (.agg cs)) w) : if Region.wanted o (yielded ops a.tmps) = true then Oper.wp P o a w K Q else E := by
 subst hd
 have hw : Region.wanted o (yielded ops a.tmps) = true := by simp [Region.wanted, hgd]
 rw [if_pos hw]
 exact wp_load_row ty x ho g hx t cs fr ds hg hu hds hi h
end Go.Proofs.YtbijaloeilnjoaaGreat

namespace Go.Proofs.YtbijaloeilnjoaaGreat
open Go.RowKit
set_option linter.unusedVariables false
set_option linter.unusedSimpArgs false

section
variable {ch : Sl} {c0 c1 : Ctl} {t g : Int} {E : List Int} {p b : Nat} {w : World} {fA : Option Addr} {fn fc : Nat}
theorem ndSee_any (h0 : Right c0) (h1 : Right c1) (hl : leave c0 = (c1, 0)) (hA : Arn w p b (wsL c0 t g E)) :
  Calls Tryz.prog 15 #[.agg #[.int .i64 2, .int .i64 4, .int .i64 0, .int .i64 512], .slice fA fn fc, .pointer (some ⟨p, 0, none⟩), (call0 ch).v] w fun e w' => e = .returned (.tuple #[(runA ch c0 c1).v, .int .i64 0]) ∧ Arn w' p b (wsL c0 t g E) ∧ Keep [b] w w' :=
 lvStepS_any p b 2 4 0 512 fA fn fc (call0 ch) w 86 0 15 _ _ (runA ch c0 c1) rfl rfl rfl go_see hA (fun g9 w1 hb1 hg1 hT1 hA1 hgb hgp => lvSee_any g9 p 2 4 0 512 fA fn fc b _ 8 c0 c1 (call0 ch) w1 plan18 hT1 hA1 hgb hgp h0 h1 hl wsL_c (by show ((8 : Nat) : Int) = 8 * 1; decide) (by show (0 : Int) ≤ 1 ∧ (1 : Int) ≤ 2 - 1; decide))
theorem ndOk_any (h0 : Right c0) (h1 : Right c1) (h3 : c1.st ≠ 3) (hA : Arn w p b (wsL c0 t g E)) :
  Calls Tryz.prog 15 #[.agg #[.int .i64 2, .int .i64 4, .int .i64 0, .int .i64 512], .slice fA fn fc, .pointer (some ⟨p, 0, none⟩), (runA ch c0 c1).v] w fun e w' => e = .returned (.tuple #[(toldR (runA ch c0 c1) 0 0 noS).v, .int .i64 0]) ∧ Arn w' p b (wsL c1 t g E) ∧ Keep [b] w w' :=
 lvStepS_any p b 2 4 0 512 fA fn fc (runA ch c0 c1) w 87 1 16 _ (wsL c1 t g E) (toldR (runA ch c0 c1) 0 0 noS) rfl rfl rfl go_leave hA (fun g9 w1 hb1 hg1 hT1 hA1 hgb hgp => lvLeaveOk_any g9 p 2 4 0 512 fA fn fc b _ 8 (word c0) c1 (runA ch c0 c1) w1 plan18 hT1 hA1 hgb hgp h1 rfl (word_bd h0) wsL_c (by show ((8 : Nat) : Int) = 8 * 1; decide) (by show (0 : Int) ≤ 1 ∧ (1 : Int) ≤ 2 - 1; decide) rfl h3 rfl)
end
set_option maxRecDepth 100000 in
set_option maxHeartbeats 8000000 in
theorem shown18_any (w : World) :
  Calls Tryz.prog 11 #[] w fun r w' => r = .returned (.bool true) ∧ Below w.heap.size w w' := by
 go_enter Tryz.func11, Tryz.ntmps11
 go_wp2_with fail
 refine (laid_any ⟨none, 0, 0⟩ none 0 [] 2 _ (by decide) Cells.nil (by simp) (by decide)).mono ?_
 rintro r w1 ⟨p, b, X, q, d, rfl, hT, -, hb⟩
 have HB := Lib.hid hb
 have HA := Lib.hid hT.a
 have HL := Lib.hid hT.low
 obtain ⟨c0, Hc0⟩ : ∃ x, Hid (c18 2 = x) := ⟨_, Lib.hid rfl⟩
 obtain ⟨c1, Hc1⟩ : ∃ x, Hid ((⟨2, 1, 0, 4⟩ : Ctl) = x) := ⟨_, Lib.hid rfl⟩
 have HC : Hid (Right c0 ∧ Right c1 ∧ leave c0 = (c1, 0) ∧ c1.st ≠ 3) := Lib.hid (by rw [← Hc0.out, ← Hc1.out]; exact ⟨by decide, by decide, by kernel_rfl, by decide⟩)
 obtain ⟨tp, Htp⟩ : ∃ x : Int, Hid (8 * (used (obsOf []) : Int) = x) := ⟨_, Lib.hid rfl⟩
 obtain ⟨E, HE⟩ : ∃ x, Hid (extE (obsOf []) = x) := ⟨_, Lib.hid rfl⟩
 rw [Hc0.out, Htp.out, HE.out] at HA
 clear hT hb Htp HE Hc0
 go_wp2_with fail
 refine (call18_any _).mono ?_
 rintro r w2 ⟨cA, kc, rfl, -, -, hb⟩
 replace HA := Lib.hid (HA.out.below hb)
 replace HB := Lib.hid (below_only HB.out hb)
 obtain ⟨ch, Hch⟩ : ∃ x, Hid ((⟨cA, 1, kc⟩ : Sl) = x) := ⟨_, Lib.hid rfl⟩
 rw [Hch.out]
 clear hb
 obtain ⟨R0, HR0⟩ : ∃ x, Hid (call0 ch = x) := ⟨_, Lib.hid rfl⟩
 rw [HR0.out]
 go_upto_region 5 with (refine wpList_store_row rfl 43 (.tmp 3) (.tmp 13) rfl w2.heap.size R0.arr rfl rfl 43 ZRun (row_new _ _ _) infoRun rfl (Rn.one _) ?_; (try simp only [zA, zB, zC, zD, zE]))
 refine alloc_set' w2 _ _ _ ?_
 intro w3 hr hb
 obtain ⟨g3, hg3⟩ : ∃ x, x = w2.heap.size := ⟨_, rfl⟩
 rw [← hg3] at hr ⊢
 have H3 := Lib.hid hr
 have L3 : Hid (w.heap.size ≤ g3 ∧ g3 ≠ b ∧ g3 ≠ p) := Lib.hid (by have := HB.out.size; have := lt_of_heap HA.out.row; have := lt_of_heap HA.out.box; omega)
 replace HA := Lib.hid (HA.out.below hb)
 replace HB := Lib.hid (below_only HB.out hb)
 clear hr hb hg3
 try simp only [Act.put]
 go_cut [] from 14 to 20 (fun wx => wx.heap[g3]? = some (.cells (runA ch c0 c1).arr 43 (0, 0)) ∧ Arn wx p b (wsL c0 tp 99 E) ∧ Below w.heap.size w wx)
 case first =>
  refine wp_region_held_drew (S := fun _ => True) (by kernel_rfl) trivial ?_
  intro hS
  have hd9 : Below w3.heap.size w3 w3.drew := Below.drew (Below.refl _ _)
  have hA := HA.out.below hd9
  have hR := row_below H3.out hd9
  have hB := below_only HB.out hd9
  clear hd9 HA H3 HB
  generalize w3.drew = y0 at hS hA hR hB ⊢
  refine tk (i := 1) (v := ?v1x9) (some 16) rfl rfl (Or.inl ⟨by kernel_rfl, ?h1x9⟩) ?r1x9
  case h1x9 => (intro w' hSw; go_simp; first | done | (with_reducible rfl))
  try simp only [zA, zB, zC, zD, zE]
  refine wpAnyH_ready (rs := [0, 2]) (by kernel_rfl) (by simp) ?_
  refine AllReadyH.cons rfl (fun K hK => ?_) (AllReadyH.cons rfl (fun K hK => ?_) AllReadyH.nil)
  ·skip
   go_simp
   refine (plan18_any _).mono ?_
   rintro e' yA ⟨rfl, hb⟩
   go_simp
   replace hA := hA.below hb
   replace hR := row_below hR hb
   replace hB := below_only hB hb
   clear hb
   refine hK.out _ _ (trivial) (fun hS => ?_)
   clear hK K
   try simp only [zA, zB, zC, zD, zE]
   refine wpAnyH_ready (rs := [2]) (by kernel_rfl) (by simp) ?_
   refine AllReadyH.cons rfl (fun K hK => ?_) AllReadyH.nil
   refine step_load_row (some 17) rfl rfl 43 (.tmp 3) rfl g3 rfl 43 R0.arr (0, 0) _ hR undRun rfl infoRun ?_
   refine hK.out _ _ (trivial) (fun hS => ?_)
   clear hK K
   try simp only [zA, zB, zC, zD, zE]
   refine wpAnyH_ready (rs := [3]) (by kernel_rfl) (by simp) ?_
   refine AllReadyH.cons rfl (fun K hK => ?_) AllReadyH.nil
   go_simp
   have hsee := ndSee_any (fA := none) (fn := 0) (fc := 0) (ch := ch) HC.out.1 HC.out.2.1 HC.out.2.2.1 hA
   rw [HR0.out] at hsee
   refine hsee.mono ?_
   rintro e' yS ⟨rfl, hA2, hk9⟩
   go_simp
   replace hR := hk9.row hR (by simpa using L3.out.2.1)
   replace hB := Keep.under hB hk9 (by have := hB.size; omega) (by simp; exact HL.out.2.1)
   clear hA hk9
   have hA := hA2
   clear hA2
   refine hK.out _ _ (trivial) (fun hS => ?_)
   clear hK K
   try simp only [zA, zB, zC, zD, zE]
   refine tk (i := 4) (v := ?v4x10) (some 14) rfl rfl (Or.inl ⟨by kernel_rfl, ?h4x10⟩) ?r4x10
   case h4x10 => (intro w' hSw; go_simp; first | done | (with_reducible rfl))
   try simp only [zA, zB, zC, zD, zE]
   refine tk (i := 5) (v := ?v5x11) (some 19) rfl rfl (Or.inl ⟨by kernel_rfl, ?h5x11⟩) ?r5x11
   case h5x11 => (intro w' hSw; go_simp; first | done | (with_reducible rfl))
   try simp only [zA, zB, zC, zD, zE]
   refine tk (i := 6) (v := ?v6x12) (some 20) rfl rfl (Or.inl ⟨by kernel_rfl, ?h6x12⟩) ?r6x12
   case h6x12 => (intro w' hSw; go_simp; first | done | (with_reducible rfl))
   try simp only [zA, zB, zC, zD, zE]
   refine wpAnyH_ready (rs := [7]) (by kernel_rfl) (by simp) ?_
   refine AllReadyH.cons rfl (fun K hK => ?_) AllReadyH.nil
   refine step_store_row none rfl rfl 43 (.tmp 3) (.tmp 19) rfl g3 (runA ch c0 c1).arr rfl rfl 43 R0.arr hR infoRun rfl (Rn.one _) ?_
   have hks := (Keep.refl [g3] yS).setRow (g := g3) (.inl (by simp)) (runA ch c0 c1).arr
   replace hA := hA.kept hks (by simpa using L3.out.2.2.symm) (by simpa using L3.out.2.1.symm)
   replace hB := Keep.under hB hks (by have := hB.size; omega) (by simp; exact L3.out.1)
   have hR2 : (yS.setRow g3 (runA ch c0 c1).arr).heap[g3]? = some (.cells (runA ch c0 c1).arr 43 (0, 0)) := setRow_heap _ _ _ _ _ _ hR
   clear hks hR
   generalize yS.setRow g3 (runA ch c0 c1).arr = yT at hA hB hR2 ⊢
   refine hK.out _ _ (trivial) (fun hS => ?_)
   clear hK K
   try simp only [zA, zB, zC, zD, zE]
   refine wpAnyH_done (by kernel_rfl) ?_ _
   clear hS
   go_wp2_with fail
   go_meet
   exact ⟨hR2, hA, hB⟩
  ·skip
   refine step_load_row (some 17) rfl rfl 43 (.tmp 3) rfl g3 rfl 43 R0.arr (0, 0) _ hR undRun rfl infoRun ?_
   refine hK.out _ _ (trivial) (fun hS => ?_)
   clear hK K
   try simp only [zA, zB, zC, zD, zE]
   refine wpAnyH_ready (rs := [0]) (by kernel_rfl) (by simp) ?_
   refine AllReadyH.cons rfl (fun K hK => ?_) AllReadyH.nil
   go_simp
   refine (plan18_any _).mono ?_
   rintro e' yA ⟨rfl, hb⟩
   go_simp
   replace hA := hA.below hb
   replace hR := row_below hR hb
   replace hB := below_only hB hb
   clear hb
   refine hK.out _ _ (trivial) (fun hS => ?_)
   clear hK K
   try simp only [zA, zB, zC, zD, zE]
   refine wpAnyH_ready (rs := [3]) (by kernel_rfl) (by simp) ?_
   refine AllReadyH.cons rfl (fun K hK => ?_) AllReadyH.nil
   go_simp
   have hsee := ndSee_any (fA := none) (fn := 0) (fc := 0) (ch := ch) HC.out.1 HC.out.2.1 HC.out.2.2.1 hA
   rw [HR0.out] at hsee
   refine hsee.mono ?_
   rintro e' yS ⟨rfl, hA2, hk9⟩
   go_simp
   replace hR := hk9.row hR (by simpa using L3.out.2.1)
   replace hB := Keep.under hB hk9 (by have := hB.size; omega) (by simp; exact HL.out.2.1)
   clear hA hk9
   have hA := hA2
   clear hA2
   refine hK.out _ _ (trivial) (fun hS => ?_)
   clear hK K
   try simp only [zA, zB, zC, zD, zE]
   refine tk (i := 4) (v := ?v4x13) (some 14) rfl rfl (Or.inl ⟨by kernel_rfl, ?h4x13⟩) ?r4x13
   case h4x13 => (intro w' hSw; go_simp; first | done | (with_reducible rfl))
   try simp only [zA, zB, zC, zD, zE]
   refine tk (i := 5) (v := ?v5x14) (some 19) rfl rfl (Or.inl ⟨by kernel_rfl, ?h5x14⟩) ?r5x14
   case h5x14 => (intro w' hSw; go_simp; first | done | (with_reducible rfl))
   try simp only [zA, zB, zC, zD, zE]
   refine tk (i := 6) (v := ?v6x15) (some 20) rfl rfl (Or.inl ⟨by kernel_rfl, ?h6x15⟩) ?r6x15
   case h6x15 => (intro w' hSw; go_simp; first | done | (with_reducible rfl))
   try simp only [zA, zB, zC, zD, zE]
   refine wpAnyH_ready (rs := [7]) (by kernel_rfl) (by simp) ?_
   refine AllReadyH.cons rfl (fun K hK => ?_) AllReadyH.nil
   refine step_store_row none rfl rfl 43 (.tmp 3) (.tmp 19) rfl g3 (runA ch c0 c1).arr rfl rfl 43 R0.arr hR infoRun rfl (Rn.one _) ?_
   have hks := (Keep.refl [g3] yS).setRow (g := g3) (.inl (by simp)) (runA ch c0 c1).arr
   replace hA := hA.kept hks (by simpa using L3.out.2.2.symm) (by simpa using L3.out.2.1.symm)
   replace hB := Keep.under hB hks (by have := hB.size; omega) (by simp; exact L3.out.1)
   have hR2 : (yS.setRow g3 (runA ch c0 c1).arr).heap[g3]? = some (.cells (runA ch c0 c1).arr 43 (0, 0)) := setRow_heap _ _ _ _ _ _ hR
   clear hks hR
   generalize yS.setRow g3 (runA ch c0 c1).arr = yT at hA hB hR2 ⊢
   refine hK.out _ _ (trivial) (fun hS => ?_)
   clear hK K
   try simp only [zA, zB, zC, zD, zE]
   refine wpAnyH_done (by kernel_rfl) ?_ _
   clear hS
   go_wp2_with fail
   go_meet
   exact ⟨hR2, hA, hB⟩
 case rest =>
  obtain ⟨h3, hA, hB⟩ := hcut
  obtain ⟨w4, hwx⟩ : ∃ x, x = wc := ⟨_, rfl⟩
  subst hwx
  replace H3 := Lib.hid h3
  replace HA := Lib.hid hA
  replace HB := Lib.hid hB
  clear h3 hA hB
  go_upto_region 6 with fail
  try simp only [Act.put]
  go_cut [4] from 4 to 27 (fun ve wx => ve = .int .i64 0 ∧ wx.heap[g3]? = some (.cells (toldR (runA ch c0 c1) 0 0 noS).arr 43 (0, 0)) ∧ Arn wx p b (wsL c1 tp 99 E) ∧ Below w.heap.size w wx)
  case first =>
   refine wp_region_held_drew (S := fun _ => True) (by kernel_rfl) trivial ?_
   intro hS
   have hd9 : Below w4.heap.size w4 w4.drew := Below.drew (Below.refl _ _)
   have hA := HA.out.below hd9
   have hR := row_below H3.out hd9
   have hB := below_only HB.out hd9
   clear hd9 HA H3 HB
   generalize w4.drew = y0 at hS hA hR hB ⊢
   refine tk (i := 1) (v := ?v1x16) (some 23) rfl rfl (Or.inl ⟨by kernel_rfl, ?h1x16⟩) ?r1x16
   case h1x16 => (intro w' hSw; go_simp; first | done | (with_reducible rfl))
   try simp only [zA, zB, zC, zD, zE]
   refine wpAnyH_ready (rs := [0, 2]) (by kernel_rfl) (by simp) ?_
   refine AllReadyH.cons rfl (fun K hK => ?_) (AllReadyH.cons rfl (fun K hK => ?_) AllReadyH.nil)
   ·skip
    go_simp
    refine (plan18_any _).mono ?_
    rintro e' yA ⟨rfl, hb⟩
    go_simp
    replace hA := hA.below hb
    replace hR := row_below hR hb
    replace hB := below_only hB hb
    clear hb
    refine hK.out _ _ (trivial) (fun hS => ?_)
    clear hK K
    try simp only [zA, zB, zC, zD, zE]
    refine wpAnyH_ready (rs := [2]) (by kernel_rfl) (by simp) ?_
    refine AllReadyH.cons rfl (fun K hK => ?_) AllReadyH.nil
    refine step_load_row (some 24) rfl rfl 43 (.tmp 3) rfl g3 rfl 43 (runA ch c0 c1).arr (0, 0) _ hR undRun rfl infoRun ?_
    refine hK.out _ _ (trivial) (fun hS => ?_)
    clear hK K
    try simp only [zA, zB, zC, zD, zE]
    refine wpAnyH_ready (rs := [3]) (by kernel_rfl) (by simp) ?_
    refine AllReadyH.cons rfl (fun K hK => ?_) AllReadyH.nil
    go_simp
    refine (ndOk_any HC.out.1 HC.out.2.1 HC.out.2.2.2 hA).mono ?_
    rintro e' yS ⟨rfl, hA2, hk9⟩
    go_simp
    replace hR := hk9.row hR (by simpa using L3.out.2.1)
    replace hB := Keep.under hB hk9 (by have := hB.size; omega) (by simp; exact HL.out.2.1)
    clear hA hk9
    have hA := hA2
    clear hA2
    refine hK.out _ _ (trivial) (fun hS => ?_)
    clear hK K
    try simp only [zA, zB, zC, zD, zE]
    refine tk (i := 4) (v := ?v4x17) (some 21) rfl rfl (Or.inl ⟨by kernel_rfl, ?h4x17⟩) ?r4x17
    case h4x17 => (intro w' hSw; go_simp; first | done | (with_reducible rfl))
    try simp only [zA, zB, zC, zD, zE]
    refine tk (i := 5) (v := ?v5x18) (some 26) rfl rfl (Or.inl ⟨by kernel_rfl, ?h5x18⟩) ?r5x18
    case h5x18 => (intro w' hSw; go_simp; first | done | (with_reducible rfl))
    try simp only [zA, zB, zC, zD, zE]
    refine tk (i := 6) (v := ?v6x19) (some 27) rfl rfl (Or.inl ⟨by kernel_rfl, ?h6x19⟩) ?r6x19
    case h6x19 => (intro w' hSw; go_simp; first | done | (with_reducible rfl))
    try simp only [zA, zB, zC, zD, zE]
    refine wpAnyH_ready (rs := [7]) (by kernel_rfl) (by simp) ?_
    refine AllReadyH.cons rfl (fun K hK => ?_) AllReadyH.nil
    refine step_store_row none rfl rfl 43 (.tmp 3) (.tmp 26) rfl g3 (toldR (runA ch c0 c1) 0 0 noS).arr rfl rfl 43 (runA ch c0 c1).arr hR infoRun rfl (Rn.one _) ?_
    have hks := (Keep.refl [g3] yS).setRow (g := g3) (.inl (by simp)) (toldR (runA ch c0 c1) 0 0 noS).arr
    replace hA := hA.kept hks (by simpa using L3.out.2.2.symm) (by simpa using L3.out.2.1.symm)
    replace hB := Keep.under hB hks (by have := hB.size; omega) (by simp; exact L3.out.1)
    have hR2 : (yS.setRow g3 (toldR (runA ch c0 c1) 0 0 noS).arr).heap[g3]? = some (.cells (toldR (runA ch c0 c1) 0 0 noS).arr 43 (0, 0)) := setRow_heap _ _ _ _ _ _ hR
    clear hks hR
    generalize yS.setRow g3 (toldR (runA ch c0 c1) 0 0 noS).arr = yT at hA hB hR2 ⊢
    refine hK.out _ _ (trivial) (fun hS => ?_)
    clear hK K
    try simp only [zA, zB, zC, zD, zE]
    refine tk (i := 8) (v := ?v8x20) (some 4) rfl rfl (Or.inl ⟨by kernel_rfl, ?h8x20⟩) ?r8x20
    case h8x20 => (intro w' hSw; go_simp; first | done | (with_reducible rfl))
    try simp only [zA, zB, zC, zD, zE]
    refine wpAnyH_done (by kernel_rfl) ?_ _
    clear hS
    go_wp2_with fail
    go_meet
    exact ⟨rfl, hR2, hA, hB⟩
   ·skip
    refine step_load_row (some 24) rfl rfl 43 (.tmp 3) rfl g3 rfl 43 (runA ch c0 c1).arr (0, 0) _ hR undRun rfl infoRun ?_
    refine hK.out _ _ (trivial) (fun hS => ?_)
    clear hK K
    try simp only [zA, zB, zC, zD, zE]
    refine wpAnyH_ready (rs := [0]) (by kernel_rfl) (by simp) ?_
    refine AllReadyH.cons rfl (fun K hK => ?_) AllReadyH.nil
    go_simp
    refine (plan18_any _).mono ?_
    rintro e' yA ⟨rfl, hb⟩
    go_simp
    replace hA := hA.below hb
    replace hR := row_below hR hb
    replace hB := below_only hB hb
    clear hb
    refine hK.out _ _ (trivial) (fun hS => ?_)
    clear hK K
    try simp only [zA, zB, zC, zD, zE]
    refine wpAnyH_ready (rs := [3]) (by kernel_rfl) (by simp) ?_
    refine AllReadyH.cons rfl (fun K hK => ?_) AllReadyH.nil
    go_simp
    refine (ndOk_any HC.out.1 HC.out.2.1 HC.out.2.2.2 hA).mono ?_
    rintro e' yS ⟨rfl, hA2, hk9⟩
    go_simp
    replace hR := hk9.row hR (by simpa using L3.out.2.1)
    replace hB := Keep.under hB hk9 (by have := hB.size; omega) (by simp; exact HL.out.2.1)
    clear hA hk9
    have hA := hA2
    clear hA2
    refine hK.out _ _ (trivial) (fun hS => ?_)
    clear hK K
    try simp only [zA, zB, zC, zD, zE]
    refine tk (i := 4) (v := ?v4x21) (some 21) rfl rfl (Or.inl ⟨by kernel_rfl, ?h4x21⟩) ?r4x21
    case h4x21 => (intro w' hSw; go_simp; first | done | (with_reducible rfl))
    try simp only [zA, zB, zC, zD, zE]
    refine tk (i := 5) (v := ?v5x22) (some 26) rfl rfl (Or.inl ⟨by kernel_rfl, ?h5x22⟩) ?r5x22
    case h5x22 => (intro w' hSw; go_simp; first | done | (with_reducible rfl))
    try simp only [zA, zB, zC, zD, zE]
    refine tk (i := 6) (v := ?v6x23) (some 27) rfl rfl (Or.inl ⟨by kernel_rfl, ?h6x23⟩) ?r6x23
    case h6x23 => (intro w' hSw; go_simp; first | done | (with_reducible rfl))
    try simp only [zA, zB, zC, zD, zE]
    refine wpAnyH_ready (rs := [7]) (by kernel_rfl) (by simp) ?_
    refine AllReadyH.cons rfl (fun K hK => ?_) AllReadyH.nil
    refine step_store_row none rfl rfl 43 (.tmp 3) (.tmp 26) rfl g3 (toldR (runA ch c0 c1) 0 0 noS).arr rfl rfl 43 (runA ch c0 c1).arr hR infoRun rfl (Rn.one _) ?_
    have hks := (Keep.refl [g3] yS).setRow (g := g3) (.inl (by simp)) (toldR (runA ch c0 c1) 0 0 noS).arr
    replace hA := hA.kept hks (by simpa using L3.out.2.2.symm) (by simpa using L3.out.2.1.symm)
    replace hB := Keep.under hB hks (by have := hB.size; omega) (by simp; exact L3.out.1)
    have hR2 : (yS.setRow g3 (toldR (runA ch c0 c1) 0 0 noS).arr).heap[g3]? = some (.cells (toldR (runA ch c0 c1) 0 0 noS).arr 43 (0, 0)) := setRow_heap _ _ _ _ _ _ hR
    clear hks hR
    generalize yS.setRow g3 (toldR (runA ch c0 c1) 0 0 noS).arr = yT at hA hB hR2 ⊢
    refine hK.out _ _ (trivial) (fun hS => ?_)
    clear hK K
    try simp only [zA, zB, zC, zD, zE]
    refine tk (i := 8) (v := ?v8x24) (some 4) rfl rfl (Or.inl ⟨by kernel_rfl, ?h8x24⟩) ?r8x24
    case h8x24 => (intro w' hSw; go_simp; first | done | (with_reducible rfl))
    try simp only [zA, zB, zC, zD, zE]
    refine wpAnyH_done (by kernel_rfl) ?_ _
    clear hS
    go_wp2_with fail
    go_meet
    exact ⟨rfl, hR2, hA, hB⟩
  case rest =>
   obtain ⟨rfl, h3, hA, hB⟩ := hcut
   obtain ⟨w5, hwx⟩ : ∃ x, x = wc := ⟨_, rfl⟩
   subst hwx
   replace H3 := Lib.hid h3
   replace HA := Lib.hid hA
   replace HB := Lib.hid hB
   clear h3 hA hB
   have c21 : w5.cell? ⟨g3, 21, none⟩ = some (.bool true) := by rw [row_cell H3.out]; rfl
   have z3 := lt_of_heap H3.out
   have C1 := Lib.hid c21
   clear c21 z3
   go_wp2_with fail
   refine (plan18_any _).mono ?_
   rintro r w6 ⟨rfl, hb⟩
   replace HA := Lib.hid (HA.out.below hb)
   replace H3 := Lib.hid (row_below H3.out hb)
   replace HB := Lib.hid (below_only HB.out hb)
   clear hb C1
   go_wp2_with fail
   refine (foundCtl_any p b 2 4 0 512 _ 8 1 c1 _ plan18 HA.out HC.out.2.1 wsL_c (by decide) (by decide)).mono ?_
   rintro r w7 ⟨rfl, hb⟩
   replace H3 := Lib.hid (row_below H3.out hb)
   replace HB := Lib.hid (below_only HB.out hb)
   rw [← Hc1.out]
   clear hb HA
   have c21 : w7.cell? ⟨g3, 21, none⟩ = some (.bool true) := by rw [row_cell H3.out]; rfl
   have z3 := lt_of_heap H3.out
   go_wp2_with fail
   go_ret
   exact ⟨rfl, below_only HB.out (by go_grown)⟩
end Go.Proofs.YtbijaloeilnjoaaGreat

namespace Go.Proofs.YtbijaloeilnjoaaGreat
open Go.RowKit
set_option linter.unusedVariables false
set_option linter.unusedSimpArgs false

section
variable {fs : List (List Fo)}
end
end Go.Proofs.YtbijaloeilnjoaaGreat
