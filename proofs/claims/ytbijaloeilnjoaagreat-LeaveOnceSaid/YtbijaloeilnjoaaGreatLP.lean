/- Layer 18 in plain terms: objects in an extent, finalizers, and what the last one who leaves makes of them. Layer 18 in plain terms: what the last one who leaves comes to, step by step. Layer 18 in plain terms: how many steps the last one who leaves takes, and what it comes to. Layer 18 in plain terms: in which order the last one who leaves finalizes, and what is said. Layer 18 in plain terms: a scope that is held; who leaves it then. -/
import Derived.Test.YtbijaloeilnjoaaGreatTakeA
namespace Go.Proofs.YtbijaloeilnjoaaGreat
open Go.RowKit
set_option linter.unusedVariables false
set_option linter.unusedSimpArgs false

/-- an op of a finalizer -/
structure Fo where
  op : Int
  a : Int
  b : Int
structure FoOk (o : Fo) : Prop where
  op : 0 ≤ o.op ∧ o.op ≤ 4
  a : 0 ≤ o.a ∧ o.a ≤ 63
  b : 0 ≤ o.b ∧ o.b ≤ 7
  z : (o.op = 0 ∨ o.op = 1 → o.b = 0) ∧ (o.op = 4 → o.a = 0 ∧ o.b = 0)
/-- the op behind it, what it makes of slots, what it says, whether it holds -/
def finN (o : Fo) (k : Nat) (sl : List Int) : Nat := if o.op = 3 ∧ sl[o.a.toNat]? = some 0 then k + 1 + o.b.toNat else k + 1
def finW (o : Fo) (sl : List Int) : List Int := if o.op = 1 then sl.set o.a.toNat 0 else if o.op = 2 then (match sl[o.b.toNat]? with | some x => sl.set o.a.toNat x | none => sl) else sl
def finS (o : Fo) : List Int := if o.op = 0 then [o.a] else []
def finH (o : Fo) : Bool := decide (o.op = 4)
theorem finN_lt (o : Fo) (k : Nat) (sl : List Int) : k < finN o k sl := by unfold finN; split <;> omega
theorem finW_len (o : Fo) (sl : List Int) : (finW o sl).length = sl.length := by
  unfold finW
  split
  · simp
  split
  · split <;> simp
  · rfl
structure Fr where
  sl : List Int
  said : List Int
  held : Bool
  n : Nat
/-- ops from the k-th one on -/
def finGo (ops : List Fo) : Nat → Nat → List Int → Fr
  | 0, _, sl => ⟨sl, [], false, 0⟩
  | f + 1, k, sl => match ops[k]? with
    | none => ⟨sl, [], false, 0⟩
    | some o => ⟨(finGo ops f (finN o k sl) (finW o sl)).sl, finS o ++ (finGo ops f (finN o k sl) (finW o sl)).said, finH o || (finGo ops f (finN o k sl) (finW o sl)).held, (finGo ops f (finN o k sl) (finW o sl)).n + 1⟩
theorem finGo_end {ops : List Fo} {k : Nat} (h : ops.length ≤ k) (f : Nat) (sl : List Int) : finGo ops f k sl = ⟨sl, [], false, 0⟩ := by
  cases f with
  | zero => rfl
  | succ f => unfold finGo; rw [List.getElem?_eq_none h]
theorem finGo_fuel {ops : List Fo} : ∀ (f g k : Nat) (sl : List Int), ops.length - k ≤ f → ops.length - k ≤ g → finGo ops f k sl = finGo ops g k sl
  | 0, g, k, sl, hf, hg => by rw [finGo_end (by omega), finGo_end (by omega)]
  | f + 1, 0, k, sl, hf, hg => by rw [finGo_end (by omega), finGo_end (by omega)]
  | f + 1, g + 1, k, sl, hf, hg => by
    unfold finGo
    cases h : ops[k]? with
    | none => rfl
    | some o =>
      have hn := finN_lt o k sl
      dsimp only
      rw [finGo_fuel f g (finN o k sl) (finW o sl) (by omega) (by omega)]
def fin8 (ops : List Fo) (k : Nat) (sl : List Int) : Fr := finGo ops 8 k sl
theorem fin8_step {ops : List Fo} {k : Nat} {sl : List Int} {o : Fo} (h8 : ops.length ≤ 8) (ho : ops[k]? = some o) :
    fin8 ops k sl = ⟨(fin8 ops (finN o k sl) (finW o sl)).sl, finS o ++ (fin8 ops (finN o k sl) (finW o sl)).said, finH o || (fin8 ops (finN o k sl) (finW o sl)).held, (fin8 ops (finN o k sl) (finW o sl)).n + 1⟩ := by
  have hn := finN_lt o k sl
  unfold fin8
  rw [finGo_fuel 8 9 k sl (by omega) (by omega)]
  conv => lhs; unfold finGo
  rw [ho]
theorem fin8_end {ops : List Fo} {k : Nat} {sl : List Int} (h : ops.length ≤ k) : fin8 ops k sl = ⟨sl, [], false, 0⟩ := finGo_end h 8 sl
theorem finGo_n (ops : List Fo) : ∀ (f k : Nat) (sl : List Int), (finGo ops f k sl).n ≤ ops.length - k ∧ (finGo ops f k sl).sl.length = sl.length
  | 0, k, sl => ⟨Nat.zero_le _, rfl⟩
  | f + 1, k, sl => by
    unfold finGo
    cases h : ops[k]? with
    | none => exact ⟨Nat.zero_le _, rfl⟩
    | some o =>
      have hn := finN_lt o k sl
      have hk := (List.getElem?_eq_some_iff.1 h).1
      obtain ⟨h1, h2⟩ := finGo_n ops f (finN o k sl) (finW o sl)
      dsimp only
      exact ⟨by omega, by rw [h2, finW_len]⟩

/-- an object: its slots, its tag, whether it was finalized -/
structure Ob where
  sl : List Int
  tg : Nat
  dn : Bool
abbrev Ob.w (o : Ob) : Nat := 2 + o.sl.length
def doneB (dn : Bool) : Int := if dn then 281474976710656 else 0
def head1d (sz sl tg : Int) (dn : Bool) : Int := head1 sz sl tg + doneB dn
def obW (o : Ob) : List Int := head1d (2 + (o.sl.length : Int)) o.sl.length o.tg o.dn :: head2 1 4 :: o.sl
theorem obW_len (o : Ob) : (obW o).length = o.w := by unfold obW Ob.w; simp; omega
structure ObOk (o : Ob) : Prop where
  n : o.sl.length ≤ 6
  tg : o.tg < 8
  sl : ∀ x ∈ o.sl, 0 ≤ x ∧ x ≤ 9223372036854775807
def used (l : List Ob) : Nat := (l.map Ob.w).sum
def offs (l : List Ob) (i : Nat) : Nat := used (l.take i)
def extE (l : List Ob) : List Int := l.flatMap obW ++ List.replicate (64 - used l) 0
theorem used_nil : used [] = 0 := rfl
theorem used_cons (o : Ob) (l : List Ob) : used (o :: l) = o.w + used l := by simp [used]
theorem used_app (l m : List Ob) : used (l ++ m) = used l + used m := by simp [used]
theorem flat_used (l : List Ob) : (l.flatMap obW).length = used l := by
  induction l with
  | nil => rfl
  | cons o l ih => rw [List.flatMap_cons, List.length_append, obW_len, ih, used_cons]
theorem extE_len {l : List Ob} (h : used l ≤ 64) : (extE l).length = 64 := by unfold extE; rw [List.length_append, flat_used, List.length_replicate]; omega
theorem split_at {l : List Ob} {i : Nat} {o : Ob} (h : l[i]? = some o) : l = l.take i ++ o :: l.drop (i + 1) := by
  obtain ⟨hi, e⟩ := List.getElem?_eq_some_iff.1 h
  rw [← e, List.getElem_cons_drop, List.take_append_drop]
theorem used_set {l : List Ob} {i : Nat} {o : Ob} (h : l[i]? = some o) {o' : Ob} (hw : o'.w = o.w) : used (l.set i o') = used l := by
  obtain ⟨hi, e⟩ := List.getElem?_eq_some_iff.1 h
  rw [List.set_eq_take_append_cons_drop, if_pos hi]
  conv => rhs; rw [split_at h]
  rw [used_app, used_app, used_cons, used_cons, hw]
theorem offs_set {l : List Ob} {i j : Nat} {o : Ob} (h : l[i]? = some o) {o' : Ob} (hw : o'.w = o.w) : offs (l.set i o') j = offs l j := by
  unfold offs
  rw [List.take_set]
  by_cases hij : i < j
  · exact used_set (by rw [List.getElem?_take, if_pos hij]; exact h) hw
  · rw [List.set_eq_of_length_le (by simp; omega)]
theorem offs_succ {l : List Ob} {i : Nat} {o : Ob} (h : l[i]? = some o) : offs l (i + 1) = offs l i + o.w := by
  obtain ⟨hi, e⟩ := List.getElem?_eq_some_iff.1 h
  unfold offs
  rw [List.take_add_one, h, used_app]
  simp [used]
theorem offs_le (l : List Ob) (i : Nat) : offs l i ≤ used l := by
  unfold offs
  conv => rhs; rw [← List.take_append_drop i l, used_app]
  omega
theorem offs_lt {l : List Ob} {i : Nat} {o : Ob} (h : l[i]? = some o) : offs l i + o.w ≤ used l := by
  rw [← offs_succ h]; exact offs_le l (i + 1)
theorem extE_get {l : List Ob} {i : Nat} {o : Ob} (h : l[i]? = some o) {j : Nat} (hj : j < o.w) : (extE l)[offs l i + j]? = (obW o)[j]? := by
  unfold extE offs
  conv => lhs; rw [show l.flatMap obW = (l.take i).flatMap obW ++ (obW o ++ (l.drop (i + 1)).flatMap obW) by conv => lhs; rw [split_at h]; simp]
  rw [List.append_assoc, List.append_assoc, List.getElem?_append_right (by rw [flat_used]; omega), flat_used, Nat.add_sub_cancel_left, List.getElem?_append_left (by rw [obW_len]; exact hj)]
theorem extE_set {l : List Ob} {i : Nat} {o : Ob} (h : l[i]? = some o) {o' : Ob} (hw : o'.w = o.w) {j : Nat} (hj : j < o.w) {x : Int} (hs : (obW o).set j x = obW o') : (extE l).set (offs l i + j) x = extE (l.set i o') := by
  obtain ⟨hi, e⟩ := List.getElem?_eq_some_iff.1 h
  unfold extE
  rw [used_set h hw]
  conv => rhs; rw [List.set_eq_take_append_cons_drop, if_pos hi]
  conv => lhs; rw [show l.flatMap obW = (l.take i).flatMap obW ++ (obW o ++ (l.drop (i + 1)).flatMap obW) by conv => lhs; rw [split_at h]; simp]
  unfold offs
  rw [List.append_assoc, List.append_assoc, List.set_append_right _ _ (by rw [flat_used]; omega), flat_used, Nat.add_sub_cancel_left, List.set_append_left _ _ (by rw [obW_len]; exact hj), hs]
  simp
/-- the words of an arena of two scopes: the control word of the scope 1, how much of it is used, its portal, its extent -/
def wsL (c : Ctl) (t g : Int) (E : List Int) : List Int := [6, 128, 0, 0, 0, 0, 0, 0, word c, 128, 512, t, g, 0, 0, 0] ++ E
section
variable {c c' : Ctl} {t t' g g' : Int} {E : List Int}
theorem wsL_len (h : E.length = 64) : (wsL c t g E).length = 80 := by unfold wsL; simp [h]
theorem wsL_c : (wsL c t g E)[8]? = some (word c) := rfl
theorem wsL_b : (wsL c t g E)[9]? = some 128 := rfl
theorem wsL_t : (wsL c t g E)[11]? = some t := rfl
theorem wsL_g : (wsL c t g E)[12]? = some g := rfl
theorem wsL_e (j : Nat) : (wsL c t g E)[16 + j]? = E[j]? := by
  unfold wsL
  rw [List.getElem?_append_right (by simp)]
  simp
theorem wsL_setC : (wsL c t g E).set 8 (word c') = wsL c' t g E := rfl
theorem wsL_setT : (wsL c t g E).set 11 t' = wsL c t' g E := rfl
theorem wsL_setG : (wsL c t g E).set 12 g' = wsL c t g' E := rfl
theorem wsL_setE (j : Nat) (x : Int) : (wsL c t g E).set (16 + j) x = wsL c t g (E.set j x) := by
  unfold wsL
  rw [List.set_append_right _ _ (by simp)]
  simp
end
/-- the extent with its first z words made 0 -/
def zeroE (l : List Ob) (z : Nat) : List Int := List.replicate z 0 ++ (extE l).drop z
theorem zeroE_len {l : List Ob} {z : Nat} (h : used l ≤ 64) (hz : z ≤ used l) : (zeroE l z).length = 64 := by unfold zeroE; rw [List.length_append, List.length_replicate, List.length_drop, extE_len h]; omega
theorem zeroE_0 (l : List Ob) : zeroE l 0 = extE l := by simp [zeroE]
theorem zeroE_set {l : List Ob} {z : Nat} (h : used l ≤ 64) (hz : z < used l) : (zeroE l z).set z 0 = zeroE l (z + 1) := by
  unfold zeroE
  rw [List.set_append_right _ _ (by simp), List.length_replicate, Nat.sub_self, List.replicate_succ']
  have hl := extE_len h
  rw [List.drop_eq_getElem_cons (by omega), List.set_cons_zero]
  simp
theorem zeroE_all {l : List Ob} (h : used l ≤ 64) : zeroE l (used l) = List.replicate 64 0 := by
  unfold zeroE extE
  rw [List.drop_append_of_le_length (by rw [flat_used]; exact Nat.le_refl _), List.drop_of_length_le (by rw [flat_used]; exact Nat.le_refl _), List.nil_append, List.replicate_append_replicate]
  congr 1; omega

/-- the last one who leaves -/
structure La where
  pc : Int
  obs : List Ob
  i : Nat
  todo : List Nat
  op : Nat
  said : List Int
  n : Nat
  held : Bool
  z : Nat
  done : Bool
def fsOf (fs : List (List Fo)) (tg : Nat) : List Fo := fs[tg]?.getD []
def further (s : La) : La := { s with pc := if s.todo = [] then (if s.held then 22 else 23) else 20 }
def isTodo (fs : List (List Fo)) (o : Ob) : Bool := !o.dn && !(fsOf fs o.tg).isEmpty
def walkLa (fs : List (List Fo)) (s : La) (o : Ob) : La := { s with todo := if isTodo fs o = true then s.todo ++ [s.i] else s.todo, i := s.i + 1 }
def finLa (fs : List (List Fo)) (s : La) (j : Nat) (o : Ob) (f : Fo) : La :=
  { s with obs := s.obs.set j { o with sl := finW f o.sl }, op := finN f s.op o.sl, said := s.said ++ finS f, held := s.held || finH f, pc := if (fsOf fs o.tg).length ≤ finN f s.op o.sl then 21 else 20 }
def markLa (s : La) (j : Nat) (o : Ob) : La := { s with obs := s.obs.set j { o with dn := true }, todo := s.todo.dropLast, n := s.n + 1, op := 0 }
def onLa (s : La) : La := if s.i < s.obs.length then { s with pc := 19 } else further s
def zerosLa (s : La) : La := { s with pc := if s.z < used s.obs then 24 else 25 }
def laStep (fs : List (List Fo)) (s : La) : La :=
  if s.pc = 17 then { s with pc := 18 }
  else if s.pc = 18 then onLa s
  else if s.pc = 19 then (match s.obs[s.i]? with | none => s | some o => onLa (walkLa fs s o))
  else if s.pc = 20 then (match s.todo.getLast? with | none => s | some j => match s.obs[j]? with | none => s | some o => match (fsOf fs o.tg)[s.op]? with | none => s | some f => finLa fs s j o f)
  else if s.pc = 21 then (match s.todo.getLast? with | none => s | some j => match s.obs[j]? with | none => s | some o => further (markLa s j o))
  else if s.pc = 22 then { s with done := true }
  else if s.pc = 23 then zerosLa s
  else if s.pc = 24 then zerosLa { s with z := s.z + 1 }
  else if s.pc = 25 then { s with pc := 26 }
  else { s with done := true }
/-- what holds of it on its way -/
structure LaIn (fs : List (List Fo)) (s : La) : Prop where
  fs8 : ∀ ops ∈ fs, ops.length ≤ 8
  fok : ∀ ops ∈ fs, ∀ o ∈ ops, FoOk o
  fl : fs.length ≤ 8
  obs : ∀ o ∈ s.obs, ObOk o
  nobs : s.obs.length ≤ 8
  use : used s.obs ≤ 64
  done : s.done = false
  pc : 17 ≤ s.pc ∧ s.pc ≤ 26
  todo : ∀ j ∈ s.todo, ∃ o, s.obs[j]? = some o ∧ fsOf fs o.tg ≠ []
  ntodo : s.todo.length ≤ s.i
  i18 : s.pc ≤ 18 → s.i = 0 ∧ s.todo = [] ∧ s.n = 0 ∧ s.held = false ∧ s.said = []
  i19 : s.pc = 19 → s.i < s.obs.length ∧ s.n = 0 ∧ s.held = false ∧ s.said = []
  i20 : 20 ≤ s.pc → s.i = s.obs.length
  op20 : s.pc = 20 → ∃ j o, s.todo.getLast? = some j ∧ s.obs[j]? = some o ∧ s.op < (fsOf fs o.tg).length
  op21 : s.pc = 21 → ∃ j, s.todo.getLast? = some j
  op0 : s.pc ≠ 20 → s.pc ≠ 21 → s.op = 0
  z0 : s.pc ≤ 23 → s.z = 0
  z24 : s.pc = 24 → s.z < used s.obs
  z25 : 25 ≤ s.pc → s.z = used s.obs
  t22 : 22 ≤ s.pc → s.todo = []
  h22 : (s.pc = 22 → s.held = true) ∧ (23 ≤ s.pc → s.held = false)
  nb : s.n + s.todo.length ≤ 8
  sb : s.said.length ≤ 8 * s.n + min s.op 8
  opb : s.op ≤ 15
end Go.Proofs.YtbijaloeilnjoaaGreat

namespace Go.Proofs.YtbijaloeilnjoaaGreat
open Go.RowKit
set_option linter.unusedVariables false
set_option linter.unusedSimpArgs false

section
variable {fs : List (List Fo)} {s : La}
theorem fsOf_mem {tg : Nat} (h : fsOf fs tg ≠ []) : fsOf fs tg ∈ fs := by
  unfold fsOf at h ⊢
  cases e : fs[tg]? with
  | none => rw [e] at h; exact absurd rfl h
  | some ops => exact List.mem_of_getElem? e
theorem LaIn.ops8 (I : LaIn fs s) (tg : Nat) : (fsOf fs tg).length ≤ 8 := by
  by_cases h : fsOf fs tg = []
  · rw [h]; decide
  · exact I.fs8 _ (fsOf_mem h)
theorem LaIn.opOk (I : LaIn fs s) {tg k : Nat} {o : Fo} (h : (fsOf fs tg)[k]? = some o) : FoOk o := by
  have hm := List.mem_of_getElem? h
  exact I.fok _ (fsOf_mem (fun e => by rw [e] at h; simp at h)) o hm
/-- at a step of finalizing: which object, which op -/
theorem LaIn.at20 (I : LaIn fs s) (h : s.pc = 20) : ∃ j o f, s.todo.getLast? = some j ∧ s.obs[j]? = some o ∧ (fsOf fs o.tg)[s.op]? = some f ∧ laStep fs s = finLa fs s j o f := by
  obtain ⟨j, o, h1, h2, h3⟩ := I.op20 h
  have h4 : (fsOf fs o.tg)[s.op]? = some ((fsOf fs o.tg)[s.op]) := List.getElem?_eq_getElem h3
  refine ⟨j, o, _, h1, h2, h4, ?_⟩
  unfold laStep
  rw [if_neg (by omega), if_neg (by omega), if_neg (by omega), if_pos h, h1]
  dsimp only
  rw [h2]
  dsimp only
  rw [h4]
theorem LaIn.at21 (I : LaIn fs s) (h : s.pc = 21) : ∃ j o, s.todo.getLast? = some j ∧ s.obs[j]? = some o ∧ laStep fs s = further (markLa s j o) := by
  obtain ⟨j, h1⟩ := I.op21 h
  obtain ⟨o, h2, _⟩ := I.todo j (List.mem_of_getLast? h1)
  refine ⟨j, o, h1, h2, ?_⟩
  unfold laStep
  rw [if_neg (by omega), if_neg (by omega), if_neg (by omega), if_neg (by omega), if_pos h, h1]
  dsimp only
  rw [h2]
theorem LaIn.at19 (I : LaIn fs s) (h : s.pc = 19) : ∃ o, s.obs[s.i]? = some o ∧ laStep fs s = onLa (walkLa fs s o) := by
  have hi := (I.i19 h).1
  have h2 : s.obs[s.i]? = some (s.obs[s.i]) := List.getElem?_eq_getElem hi
  refine ⟨_, h2, ?_⟩
  unfold laStep
  rw [if_neg (by omega), if_neg (by omega), if_pos h, h2]
/-- what a state must be to go further -/
structure Furth (fs : List (List Fo)) (s : La) : Prop where
  fs8 : ∀ ops ∈ fs, ops.length ≤ 8
  fok : ∀ ops ∈ fs, ∀ o ∈ ops, FoOk o
  fl : fs.length ≤ 8
  obs : ∀ o ∈ s.obs, ObOk o
  nobs : s.obs.length ≤ 8
  use : used s.obs ≤ 64
  done : s.done = false
  todo : ∀ j ∈ s.todo, ∃ o, s.obs[j]? = some o ∧ fsOf fs o.tg ≠ []
  ntodo : s.todo.length ≤ s.i
  i : s.i = s.obs.length
  op : s.op = 0
  z : s.z = 0
  nb : s.n + s.todo.length ≤ 8
  sb : s.said.length ≤ 8 * s.n
theorem Furth.fin (F : Furth fs s) : LaIn fs (further s) := by
  have hp : (further s).pc = 20 ∧ s.todo ≠ [] ∨ (further s).pc = 22 ∧ s.todo = [] ∧ s.held = true ∨ (further s).pc = 23 ∧ s.todo = [] ∧ s.held = false := by
    unfold further
    by_cases h : s.todo = []
    · cases hh : s.held with
      | true => exact .inr (.inl ⟨by simp [h], h, rfl⟩)
      | false => exact .inr (.inr ⟨by simp [h], h, rfl⟩)
    · exact .inl ⟨by simp [h], h⟩
  have hb : s.said.length ≤ 8 * s.n + min s.op 8 := Nat.le_trans F.sb (by omega)
  refine ⟨F.fs8, F.fok, F.fl, F.obs, F.nobs, F.use, F.done, by omega, F.todo, F.ntodo, fun h => by omega, fun h => by omega, fun _ => F.i, fun h => ?_, fun h => by omega, fun _ _ => F.op, fun _ => F.z, fun h => by omega, fun h => by omega, fun h => ?_, ⟨fun h => ?_, fun h => ?_⟩, F.nb, hb, by show s.op ≤ 15; rw [F.op]; omega⟩
  · rcases hp with hp | hp | hp
    · obtain ⟨j, hj⟩ : ∃ j, s.todo.getLast? = some j := ⟨_, List.getLast?_eq_some_getLast hp.2⟩
      obtain ⟨o, h1, h2⟩ := F.todo j (List.mem_of_getLast? hj)
      exact ⟨j, o, hj, h1, by show s.op < _; rw [F.op]; exact List.length_pos_iff.2 h2⟩
    · omega
    · omega
  · rcases hp with hp | hp | hp
    · omega
    · exact hp.2.1
    · exact hp.2.1
  · rcases hp with hp | hp | hp
    · omega
    · exact hp.2.2
    · omega
  · rcases hp with hp | hp | hp
    · omega
    · omega
    · exact hp.2.2
theorem LaIn.walk (I : LaIn fs s) (h : s.pc = 18 ∨ s.pc = 19) {s' : La} (h1 : s'.obs = s.obs) (h2 : s'.i ≤ s.obs.length) (h3 : ∀ j ∈ s'.todo, ∃ o, s.obs[j]? = some o ∧ fsOf fs o.tg ≠ []) (h4 : s'.todo.length ≤ s'.i) (h5 : s'.n = 0 ∧ s'.held = false ∧ s'.said = [] ∧ s'.op = 0 ∧ s'.z = 0 ∧ s'.done = false) : LaIn fs (onLa s') := by
  obtain ⟨hn, hh, hs, ho, hz, hd⟩ := h5
  have hnb := I.nobs
  unfold onLa
  by_cases hi : s'.i < s'.obs.length
  · rw [if_pos hi]
    exact ⟨I.fs8, I.fok, I.fl, by show ∀ o ∈ s'.obs, ObOk o; rw [h1]; exact I.obs, by show s'.obs.length ≤ 8; rw [h1]; exact hnb, by show used s'.obs ≤ 64; rw [h1]; exact I.use, hd, by show (17 : Int) ≤ 19 ∧ (19 : Int) ≤ 26; omega, by show ∀ j ∈ s'.todo, ∃ o, s'.obs[j]? = some o ∧ _; rw [h1]; exact h3, h4, fun h => by exact absurd h (by show ¬ (19 : Int) ≤ 18; omega), fun _ => ⟨hi, hn, hh, hs⟩, fun h => by exact absurd h (by show ¬ (20 : Int) ≤ 19; omega), fun h => by exact absurd h (by show ¬ (19 : Int) = 20; omega), fun h => by exact absurd h (by show ¬ (19 : Int) = 21; omega), fun _ _ => ho, fun _ => hz, fun h => by exact absurd h (by show ¬ (19 : Int) = 24; omega), fun h => by exact absurd h (by show ¬ (25 : Int) ≤ 19; omega), fun h => by exact absurd h (by show ¬ (22 : Int) ≤ 19; omega), ⟨fun h => by exact absurd h (by show ¬ (19 : Int) = 22; omega), fun _ => hh⟩, by show s'.n + s'.todo.length ≤ 8; rw [h1] at hi; omega, by show s'.said.length ≤ _; rw [hs]; exact Nat.zero_le _, by show s'.op ≤ 15; omega⟩
  · rw [if_neg hi]
    rw [h1] at hi
    exact Furth.fin ⟨I.fs8, I.fok, I.fl, by rw [h1]; exact I.obs, by rw [h1]; exact hnb, by rw [h1]; exact I.use, hd, by rw [h1]; exact h3, h4, by rw [h1]; omega, ho, hz, by omega, by rw [hs]; exact Nat.zero_le _⟩
theorem ObOk.fin {o : Ob} (h : ObOk o) (f : Fo) : ObOk { o with sl := finW f o.sl } := by
  refine ⟨by show (finW f o.sl).length ≤ 6; rw [finW_len]; exact h.n, h.tg, fun x hx => ?_⟩
  have hx : x ∈ finW f o.sl := hx
  unfold finW at hx
  split at hx
  · rcases List.mem_or_eq_of_mem_set hx with h1 | h1
    · exact h.sl x h1
    · rw [h1]; decide
  split at hx
  · split at hx
    · rename_i y hy
      rcases List.mem_or_eq_of_mem_set hx with h1 | h1
      · exact h.sl x h1
      · rw [h1]; exact h.sl y (List.mem_of_getElem? hy)
    · exact h.sl x hx
  · exact h.sl x hx
theorem set_obs {l : List Ob} {j : Nat} {o o' : Ob} (h : ∀ x ∈ l, ObOk x) (ho : ObOk o') : ∀ x ∈ l.set j o', ObOk x := fun x hx => by
  rcases List.mem_or_eq_of_mem_set hx with h1 | h1
  · exact h x h1
  · rw [h1]; exact ho
theorem set_todo {l : List Ob} {j : Nat} {o o' : Ob} (hj : l[j]? = some o) (ht : o'.tg = o.tg) {t : List Nat} (h : ∀ j ∈ t, ∃ o, l[j]? = some o ∧ fsOf fs o.tg ≠ []) : ∀ k ∈ t, ∃ o, (l.set j o')[k]? = some o ∧ fsOf fs o.tg ≠ [] := fun k hk => by
  obtain ⟨y, h1, h2⟩ := h k hk
  by_cases e : j = k
  · subst e
    rw [hj] at h1
    injection h1 with h1
    exact ⟨o', by rw [List.getElem?_set, if_pos rfl, if_pos (List.getElem?_eq_some_iff.1 hj).1], by rw [ht, h1]; exact h2⟩
  · exact ⟨y, by rw [List.getElem?_set, if_neg e]; exact h1, h2⟩
theorem finN_le {o : Fo} (h : FoOk o) (k : Nat) (sl : List Int) : finN o k sl ≤ k + 8 := by unfold finN; have := h.b; split <;> omega
theorem finS_len (o : Fo) : (finS o).length ≤ 1 := by unfold finS; split <;> simp
theorem zeros_in (I : LaIn fs s) (h : 23 ≤ s.pc) {s' : La} (h1 : s' = { s with z := s'.z }) (h2 : s'.z ≤ used s.obs) : LaIn fs (zerosLa s') := by
  obtain ⟨z, rfl⟩ : ∃ z, s' = { s with z := z } := ⟨s'.z, h1⟩
  have hz : z ≤ used s.obs := h2
  have h22 := I.t22 (by omega)
  have hop := I.op0 (by omega) (by omega)
  have hh := I.h22.2 h
  unfold zerosLa
  by_cases hl : z < used s.obs
  · rw [if_pos (show ({ s with z := z } : La).z < used ({ s with z := z } : La).obs from hl)]
    exact { I with pc := by show (17 : Int) ≤ 24 ∧ (24 : Int) ≤ 26; omega, i18 := fun h => absurd h (by show ¬ (24 : Int) ≤ 18; omega), i19 := fun h => absurd h (by show ¬ (24 : Int) = 19; omega), i20 := fun _ => I.i20 (by omega), op20 := fun h => absurd h (by show ¬ (24 : Int) = 20; omega), op21 := fun h => absurd h (by show ¬ (24 : Int) = 21; omega), op0 := fun _ _ => hop, z0 := fun h => absurd h (by show ¬ (24 : Int) ≤ 23; omega), z24 := fun _ => hl, z25 := fun h => absurd h (by show ¬ (25 : Int) ≤ 24; omega), t22 := fun _ => h22, h22 := ⟨fun h => absurd h (by show ¬ (24 : Int) = 22; omega), fun _ => hh⟩ }
  · rw [if_neg (show ¬ ({ s with z := z } : La).z < used ({ s with z := z } : La).obs from hl)]
    exact { I with pc := by show (17 : Int) ≤ 25 ∧ (25 : Int) ≤ 26; omega, i18 := fun h => absurd h (by show ¬ (25 : Int) ≤ 18; omega), i19 := fun h => absurd h (by show ¬ (25 : Int) = 19; omega), i20 := fun _ => I.i20 (by omega), op20 := fun h => absurd h (by show ¬ (25 : Int) = 20; omega), op21 := fun h => absurd h (by show ¬ (25 : Int) = 21; omega), op0 := fun _ _ => hop, z0 := fun h => absurd h (by show ¬ (25 : Int) ≤ 23; omega), z24 := fun h => absurd h (by show ¬ (25 : Int) = 24; omega), z25 := fun _ => by show z = used s.obs; omega, t22 := fun _ => h22, h22 := ⟨fun h => absurd h (by show ¬ (25 : Int) = 22; omega), fun _ => hh⟩ }
/-- behind a step: done, or on its way -/
theorem la_next (I : LaIn fs s) : (laStep fs s).done = true ∨ LaIn fs (laStep fs s) := by
  have hp := I.pc
  by_cases h17 : s.pc = 17
  · right
    have i18 := I.i18 (by omega)
    have hop := I.op0 (by omega) (by omega)
    have hz := I.z0 (by omega)
    unfold laStep
    rw [if_pos h17]
    exact { I with pc := by show (17 : Int) ≤ 18 ∧ (18 : Int) ≤ 26; omega, i18 := fun _ => i18, i19 := fun h => absurd h (by show ¬ (18 : Int) = 19; omega), i20 := fun h => absurd h (by show ¬ (20 : Int) ≤ 18; omega), op20 := fun h => absurd h (by show ¬ (18 : Int) = 20; omega), op21 := fun h => absurd h (by show ¬ (18 : Int) = 21; omega), op0 := fun _ _ => hop, z0 := fun _ => hz, z24 := fun h => absurd h (by show ¬ (18 : Int) = 24; omega), z25 := fun h => absurd h (by show ¬ (25 : Int) ≤ 18; omega), t22 := fun h => absurd h (by show ¬ (22 : Int) ≤ 18; omega), h22 := ⟨fun h => absurd h (by show ¬ (18 : Int) = 22; omega), fun h => absurd h (by show ¬ (23 : Int) ≤ 18; omega)⟩ }
  by_cases h18 : s.pc = 18
  · right
    obtain ⟨hi, ht, hn, hh, hs⟩ := I.i18 (by omega)
    have e : laStep fs s = onLa s := by unfold laStep; rw [if_neg h17, if_pos h18]
    rw [e]
    exact I.walk (.inl h18) rfl (by omega) I.todo I.ntodo ⟨hn, hh, hs, I.op0 (by omega) (by omega), I.z0 (by omega), I.done⟩
  by_cases h19 : s.pc = 19
  · right
    obtain ⟨o, ho, e⟩ := I.at19 h19
    obtain ⟨hi, hn, hh, hs⟩ := I.i19 h19
    rw [e]
    refine I.walk (.inr h19) rfl hi (fun j hj => ?_) ?_ ⟨hn, hh, hs, I.op0 (by omega) (by omega), I.z0 (by omega), I.done⟩
    · have hj : j ∈ (if isTodo fs o = true then s.todo ++ [s.i] else s.todo) := hj
      by_cases ht : isTodo fs o = true
      · rw [if_pos ht] at hj
        rcases List.mem_append.1 hj with h | h
        · exact I.todo j h
        · simp at h
          subst h
          refine ⟨o, ho, fun e => ?_⟩
          unfold isTodo at ht
          rw [e] at ht
          simp at ht
      · rw [if_neg ht] at hj
        exact I.todo j hj
    · show (if isTodo fs o = true then s.todo ++ [s.i] else s.todo).length ≤ s.i + 1
      have := I.ntodo
      split
      · simp; omega
      · omega
  by_cases h20 : s.pc = 20
  · right
    obtain ⟨j, o, f, h1, h2, h3, e⟩ := I.at20 h20
    have hi := I.i20 (by omega)
    have hz := I.z0 (by omega)
    have hf := I.opOk h3
    have hw : ({ o with sl := finW f o.sl } : Ob).w = o.w := by show 2 + (finW f o.sl).length = _; rw [finW_len]
    have hl := (List.getElem?_eq_some_iff.1 h3).1
    have h8 := I.ops8 o.tg
    have hN := finN_lt f s.op o.sl
    have hN2 := finN_le hf s.op o.sl
    have hb := I.sb
    have hS := finS_len f
    have hset : (s.obs.set j { o with sl := finW f o.sl })[j]? = some { o with sl := finW f o.sl } := by rw [List.getElem?_set, if_pos rfl, if_pos (List.getElem?_eq_some_iff.1 h2).1]
    have hsb : (s.said ++ finS f).length ≤ 8 * s.n + min (finN f s.op o.sl) 8 := by rw [List.length_append]; omega
    rw [e]
    have base : ∀ q : Int, (q = 20 ∧ finN f s.op o.sl < (fsOf fs o.tg).length ∨ q = 21) → LaIn fs { s with obs := s.obs.set j { o with sl := finW f o.sl }, op := finN f s.op o.sl, said := s.said ++ finS f, held := s.held || finH f, pc := q } := fun q hq =>
      { fs8 := I.fs8, fok := I.fok, fl := I.fl, obs := set_obs (o := o) I.obs (ObOk.fin (I.obs o (List.mem_of_getElem? h2)) f), nobs := by simpa using I.nobs, use := by show used (s.obs.set j _) ≤ 64; rw [used_set h2 hw]; exact I.use, done := I.done, pc := by show 17 ≤ q ∧ q ≤ 26; omega, todo := set_todo (o' := { o with sl := finW f o.sl }) h2 rfl I.todo, ntodo := I.ntodo, i18 := fun h => by have h : q ≤ 18 := h; omega, i19 := fun h => by have h : q = 19 := h; omega, i20 := fun _ => by simpa using hi, op20 := fun h => by
          have h : q = 20 := h
          rcases hq with hq | hq
          · exact ⟨j, _, h1, hset, hq.2⟩
          · omega
        , op21 := fun _ => ⟨j, h1⟩, op0 := fun a b => by have a : q ≠ 20 := a; have b : q ≠ 21 := b; omega, z0 := fun _ => hz, z24 := fun h => by have h : q = 24 := h; omega, z25 := fun h => by have h : 25 ≤ q := h; omega, t22 := fun h => by have h : 22 ≤ q := h; omega, h22 := ⟨fun h => by have h : q = 22 := h; omega, fun h => by have h : 23 ≤ q := h; omega⟩, nb := I.nb, sb := hsb, opb := by show finN f s.op o.sl ≤ 15; omega }
    unfold finLa
    by_cases hx : (fsOf fs o.tg).length ≤ finN f s.op o.sl
    · rw [if_pos hx]; exact base 21 (.inr rfl)
    · rw [if_neg hx]; exact base 20 (.inl ⟨rfl, by omega⟩)
  by_cases h21 : s.pc = 21
  · right
    obtain ⟨j, o, h1, h2, e⟩ := I.at21 h21
    have ho := I.obs o (List.mem_of_getElem? h2)
    have hw : ({ o with dn := true } : Ob).w = o.w := rfl
    have hne : s.todo ≠ [] := fun h => by rw [h] at h1; simp at h1
    have hlen := List.length_pos_iff.2 hne
    rw [e]
    refine Furth.fin ⟨I.fs8, I.fok, I.fl, set_obs (o := o) I.obs ⟨ho.n, ho.tg, ho.sl⟩, by show (s.obs.set j _).length ≤ 8; simpa using I.nobs, by show used (s.obs.set j _) ≤ 64; rw [used_set h2 hw]; exact I.use, I.done, fun k hk => ?_, ?_, by show s.i = (s.obs.set j _).length; simpa using I.i20 (by omega), rfl, I.z0 (by omega), ?_, ?_⟩
    · exact set_todo (o' := { o with dn := true }) h2 rfl I.todo k (List.dropLast_subset _ hk)
    · show s.todo.dropLast.length ≤ s.i
      have := I.ntodo
      rw [List.length_dropLast]; omega
    · show s.n + 1 + s.todo.dropLast.length ≤ 8
      have := I.nb
      rw [List.length_dropLast]; omega
    · show s.said.length ≤ 8 * (s.n + 1)
      have := I.sb
      omega
  by_cases h22 : s.pc = 22
  · left
    unfold laStep
    rw [if_neg h17, if_neg h18, if_neg h19, if_neg h20, if_neg h21, if_pos h22]
  by_cases h23 : s.pc = 23
  · right
    have e : laStep fs s = zerosLa s := by unfold laStep; rw [if_neg h17, if_neg h18, if_neg h19, if_neg h20, if_neg h21, if_neg h22, if_pos h23]
    rw [e]
    exact zeros_in I (by omega) rfl (by rw [I.z0 (by omega)]; exact Nat.zero_le _)
  by_cases h24 : s.pc = 24
  · right
    have e : laStep fs s = zerosLa { s with z := s.z + 1 } := by unfold laStep; rw [if_neg h17, if_neg h18, if_neg h19, if_neg h20, if_neg h21, if_neg h22, if_neg h23, if_pos h24]
    rw [e]
    exact zeros_in I (by omega) rfl (I.z24 h24)
  by_cases h25 : s.pc = 25
  · right
    have e : laStep fs s = { s with pc := 26 } := by unfold laStep; rw [if_neg h17, if_neg h18, if_neg h19, if_neg h20, if_neg h21, if_neg h22, if_neg h23, if_neg h24, if_pos h25]
    have ht := I.t22 (by omega)
    have hh := I.h22.2 (by omega)
    have hop := I.op0 (by omega) (by omega)
    have hz := I.z25 (by omega)
    have hi := I.i20 (by omega)
    rw [e]
    exact { I with pc := by show (17 : Int) ≤ 26 ∧ (26 : Int) ≤ 26; omega, i18 := fun h => absurd h (by show ¬ (26 : Int) ≤ 18; omega), i19 := fun h => absurd h (by show ¬ (26 : Int) = 19; omega), i20 := fun _ => hi, op20 := fun h => absurd h (by show ¬ (26 : Int) = 20; omega), op21 := fun h => absurd h (by show ¬ (26 : Int) = 21; omega), op0 := fun _ _ => hop, z0 := fun h => absurd h (by show ¬ (26 : Int) ≤ 23; omega), z24 := fun h => absurd h (by show ¬ (26 : Int) = 24; omega), z25 := fun _ => hz, t22 := fun _ => ht, h22 := ⟨fun h => absurd h (by show ¬ (26 : Int) = 22; omega), fun _ => hh⟩ }
  · left
    unfold laStep
    rw [if_neg h17, if_neg h18, if_neg h19, if_neg h20, if_neg h21, if_neg h22, if_neg h23, if_neg h24, if_neg h25]
end
end Go.Proofs.YtbijaloeilnjoaaGreat

namespace Go.Proofs.YtbijaloeilnjoaaGreat
open Go.RowKit
set_option linter.unusedVariables false
set_option linter.unusedSimpArgs false

def laIter (fs : List (List Fo)) : Nat → La → La
  | 0, s => s
  | n + 1, s => laIter fs n (laStep fs s)
structure Runs (fs : List (List Fo)) (s : La) (N : Nat) (s' : La) : Prop where
  it : laIter fs N s = s'
  on : ∀ n, n < N → (laIter fs n s).done = false
section
variable {fs : List (List Fo)} {s s' s'' : La} {N M : Nat}
theorem laIter_add (fs : List (List Fo)) : ∀ (N M : Nat) (s : La), laIter fs (N + M) s = laIter fs M (laIter fs N s)
  | 0, M, s => by rw [Nat.zero_add]; rfl
  | N + 1, M, s => by rw [show N + 1 + M = (N + M) + 1 by omega]; exact laIter_add fs N M (laStep fs s)
theorem laIter_succ (fs : List (List Fo)) (N : Nat) (s : La) : laIter fs (N + 1) s = laStep fs (laIter fs N s) := laIter_add fs N 1 s
theorem Runs.zero : Runs fs s 0 s := ⟨rfl, fun n h => by omega⟩
theorem Runs.one (h : s.done = false) : Runs fs s 1 (laStep fs s) := ⟨rfl, fun n hn => by
  obtain rfl : n = 0 := (by omega)
  exact h⟩
theorem Runs.trans (h : Runs fs s N s') (k : Runs fs s' M s'') : Runs fs s (N + M) s'' := by
  refine ⟨by rw [laIter_add, h.it, k.it], fun n hn => ?_⟩
  by_cases hl : n < N
  · exact h.on n hl
  · obtain ⟨m, rfl⟩ := Nat.exists_eq_add_of_le (Nat.le_of_not_lt hl)
    rw [laIter_add, h.it]
    exact k.on m (by omega)
theorem Runs.step (h : s.done = false) (k : Runs fs (laStep fs s) N s') : Runs fs s (N + 1) s' := by
  have := (Runs.one (fs := fs) h).trans k
  rwa [Nat.add_comm] at this
theorem laIter_in (I : LaIn fs s) : ∀ n, (∀ m, m ≤ n → (laIter fs m s).done = false) → LaIn fs (laIter fs n s)
  | 0, _ => I
  | n + 1, h => by
    have ih := laIter_in I n (fun m hm => h m (by omega))
    rw [laIter_succ]
    rcases la_next ih with hd | hi
    · have := h (n + 1) (Nat.le_refl _)
      rw [laIter_succ, hd] at this
      cases this
    · exact hi
/-- which objects are to be finalized: of k from the i-th one on -/
def todoFrom (fs : List (List Fo)) (l : List Ob) : Nat → Nat → List Nat
  | 0, _ => []
  | k + 1, i => (match l[i]? with | some o => if isTodo fs o = true then [i] else [] | none => []) ++ todoFrom fs l k (i + 1)
theorem walk_runs : ∀ (k : Nat) (s : La), s.obs.length - s.i = k → s.done = false → Runs fs (onLa s) k (further { s with todo := s.todo ++ todoFrom fs s.obs k s.i, i := max s.i s.obs.length })
  | 0, s, h, hd => by
    have hi : ¬ s.i < s.obs.length := by omega
    unfold onLa
    rw [if_neg hi]
    have e : ({ s with todo := s.todo ++ todoFrom fs s.obs 0 s.i, i := max s.i s.obs.length } : La) = s := by
      show ({ s with todo := s.todo ++ [], i := max s.i s.obs.length } : La) = s
      rw [List.append_nil, Nat.max_eq_left (by omega)]
    rw [e]
    exact Runs.zero
  | k + 1, s, h, hd => by
    have hi : s.i < s.obs.length := by omega
    obtain ⟨o, ho⟩ : ∃ o, s.obs[s.i]? = some o := ⟨_, List.getElem?_eq_getElem hi⟩
    have e0 : onLa s = { s with pc := 19 } := by unfold onLa; rw [if_pos hi]
    have e1 : laStep fs (onLa s) = onLa (walkLa fs s o) := by
      rw [e0]
      unfold laStep
      rw [if_neg (show ¬ ({ s with pc := 19 } : La).pc = 17 by show ¬ (19 : Int) = 17; omega), if_neg (show ¬ ({ s with pc := 19 } : La).pc = 18 by show ¬ (19 : Int) = 18; omega), if_pos (show ({ s with pc := 19 } : La).pc = 19 from rfl)]
      show (match s.obs[s.i]? with | none => _ | some o => _) = _
      rw [ho]
      show onLa (walkLa fs { s with pc := 19 } o) = onLa (walkLa fs s o)
      unfold onLa
      by_cases h2 : s.i + 1 < s.obs.length
      · rw [if_pos (show (walkLa fs { s with pc := 19 } o).i < (walkLa fs { s with pc := 19 } o).obs.length from h2), if_pos (show (walkLa fs s o).i < (walkLa fs s o).obs.length from h2)]
        rfl
      · rw [if_neg (show ¬ (walkLa fs { s with pc := 19 } o).i < (walkLa fs { s with pc := 19 } o).obs.length from h2), if_neg (show ¬ (walkLa fs s o).i < (walkLa fs s o).obs.length from h2)]
        rfl
    refine Runs.step (by rw [e0]; exact hd) ?_
    rw [e1]
    have ih := walk_runs k (walkLa fs s o) (by show s.obs.length - (s.i + 1) = k; omega) hd
    have e2 : ({ walkLa fs s o with todo := (walkLa fs s o).todo ++ todoFrom fs (walkLa fs s o).obs k (walkLa fs s o).i, i := max (walkLa fs s o).i (walkLa fs s o).obs.length } : La) = { s with todo := s.todo ++ todoFrom fs s.obs (k + 1) s.i, i := max s.i s.obs.length } := by
      have ht : (walkLa fs s o).todo ++ todoFrom fs (walkLa fs s o).obs k (walkLa fs s o).i = s.todo ++ todoFrom fs s.obs (k + 1) s.i := by
        show (if isTodo fs o = true then s.todo ++ [s.i] else s.todo) ++ todoFrom fs s.obs k (s.i + 1) = s.todo ++ ((match s.obs[s.i]? with | some o => if isTodo fs o = true then [s.i] else [] | none => []) ++ todoFrom fs s.obs k (s.i + 1))
        rw [ho]
        dsimp only
        by_cases ht : isTodo fs o = true
        · rw [if_pos ht, if_pos ht]; simp
        · rw [if_neg ht, if_neg ht]; simp
      have hm : max (walkLa fs s o).i (walkLa fs s o).obs.length = max s.i s.obs.length := by
        show max (s.i + 1) s.obs.length = max s.i s.obs.length
        omega
      rw [ht, hm]
      rfl
    rwa [e2] at ih
/-- one object's finalizer, from one of its ops on -/
theorem fin_runs {j : Nat} : ∀ (m : Nat) (s : La) (o : Ob), (fsOf fs o.tg).length - s.op = m → (fsOf fs o.tg).length ≤ 8 → s.pc = 20 → s.done = false → s.todo.getLast? = some j → s.obs[j]? = some o → s.op < (fsOf fs o.tg).length →
    ∃ k, Runs fs s (fin8 (fsOf fs o.tg) s.op o.sl).n { s with pc := 21, obs := s.obs.set j { o with sl := (fin8 (fsOf fs o.tg) s.op o.sl).sl }, op := k, said := s.said ++ (fin8 (fsOf fs o.tg) s.op o.sl).said, held := s.held || (fin8 (fsOf fs o.tg) s.op o.sl).held } := by
  intro m
  induction m using Nat.strongRecOn with
  | _ m ih =>
    intro s o hm h8 hp hd hj ho hl
    obtain ⟨f, hf⟩ : ∃ f, (fsOf fs o.tg)[s.op]? = some f := ⟨_, List.getElem?_eq_getElem hl⟩
    have e : laStep fs s = finLa fs s j o f := by
      unfold laStep
      rw [if_neg (by omega), if_neg (by omega), if_neg (by omega), if_pos hp, hj]
      dsimp only
      rw [ho]
      dsimp only
      rw [hf]
    have hN := finN_lt f s.op o.sl
    rw [fin8_step h8 hf]
    by_cases hx : (fsOf fs o.tg).length ≤ finN f s.op o.sl
    · rw [fin8_end hx]
      refine ⟨finN f s.op o.sl, ?_⟩
      have h1 := Runs.one (fs := fs) hd
      rw [e] at h1
      have e2 : finLa fs s j o f = { s with pc := 21, obs := s.obs.set j { o with sl := finW f o.sl }, op := finN f s.op o.sl, said := s.said ++ (finS f ++ []), held := s.held || (finH f || false) } := by
        unfold finLa
        rw [if_pos hx, List.append_nil, Bool.or_false]
      rw [e2] at h1
      exact h1
    · have hl2 : finN f s.op o.sl < (fsOf fs o.tg).length := by omega
      obtain ⟨s2, hs2⟩ : ∃ x, x = finLa fs s j o f := ⟨_, rfl⟩
      have e2 : s2 = { s with pc := 20, obs := s.obs.set j { o with sl := finW f o.sl }, op := finN f s.op o.sl, said := s.said ++ finS f, held := s.held || finH f } := by
        rw [hs2]; unfold finLa; rw [if_neg hx]
      have hset : (s.obs.set j ({ o with sl := finW f o.sl } : Ob))[j]? = some { o with sl := finW f o.sl } := by rw [List.getElem?_set, if_pos rfl, if_pos (List.getElem?_eq_some_iff.1 ho).1]
      obtain ⟨k, hk⟩ := ih ((fsOf fs o.tg).length - finN f s.op o.sl) (by omega) s2 { o with sl := finW f o.sl } (by rw [e2]) h8 (by rw [e2]) (by rw [e2]; exact hd) (by rw [e2]; exact hj) (by rw [e2]; exact hset) (by rw [e2]; exact hl2)
      refine ⟨k, ?_⟩
      refine Runs.step hd ?_
      rw [e, ← hs2]
      have e3 : s2.op = finN f s.op o.sl := by rw [e2]
      rw [e3] at hk
      have e4 : ({ s2 with pc := 21, obs := s2.obs.set j { o with sl := (fin8 (fsOf fs o.tg) (finN f s.op o.sl) (finW f o.sl)).sl }, op := k, said := s2.said ++ (fin8 (fsOf fs o.tg) (finN f s.op o.sl) (finW f o.sl)).said, held := s2.held || (fin8 (fsOf fs o.tg) (finN f s.op o.sl) (finW f o.sl)).held } : La) =
          { s with pc := 21, obs := s.obs.set j { o with sl := (fin8 (fsOf fs o.tg) (finN f s.op o.sl) (finW f o.sl)).sl }, op := k, said := s.said ++ (finS f ++ (fin8 (fsOf fs o.tg) (finN f s.op o.sl) (finW f o.sl)).said), held := s.held || (finH f || (fin8 (fsOf fs o.tg) (finN f s.op o.sl) (finW f o.sl)).held) } := by
        rw [e2]
        simp [List.set_set, List.append_assoc, Bool.or_assoc]
      rw [← e4]
      exact hk
theorem fin_runs0 {j : Nat} (s : La) (o : Ob) (h0 : s.op = 0) (h8 : (fsOf fs o.tg).length ≤ 8) (hp : s.pc = 20) (hd : s.done = false) (hj : s.todo.getLast? = some j) (ho : s.obs[j]? = some o) (hl : fsOf fs o.tg ≠ []) :
    ∃ k, Runs fs s (fin8 (fsOf fs o.tg) 0 o.sl).n { s with pc := 21, obs := s.obs.set j { o with sl := (fin8 (fsOf fs o.tg) 0 o.sl).sl }, op := k, said := s.said ++ (fin8 (fsOf fs o.tg) 0 o.sl).said, held := s.held || (fin8 (fsOf fs o.tg) 0 o.sl).held } := by
  have h := fin_runs (fs := fs) (j := j) _ s o rfl h8 hp hd hj ho (by rw [h0]; exact List.length_pos_iff.2 hl)
  rw [h0] at h
  exact h
structure Fa where
  obs : List Ob
  said : List Int
  held : Bool
  n : Nat
/-- objects finalized one behind the other -/
def finAll (fs : List (List Fo)) : List Nat → List Ob → Fa
  | [], l => ⟨l, [], false, 0⟩
  | j :: js, l => match l[j]? with
    | none => ⟨l, [], false, 0⟩
    | some o => ⟨(finAll fs js (l.set j ⟨(fin8 (fsOf fs o.tg) 0 o.sl).sl, o.tg, true⟩)).obs, (fin8 (fsOf fs o.tg) 0 o.sl).said ++ (finAll fs js (l.set j ⟨(fin8 (fsOf fs o.tg) 0 o.sl).sl, o.tg, true⟩)).said, (fin8 (fsOf fs o.tg) 0 o.sl).held || (finAll fs js (l.set j ⟨(fin8 (fsOf fs o.tg) 0 o.sl).sl, o.tg, true⟩)).held, (fin8 (fsOf fs o.tg) 0 o.sl).n + 1 + (finAll fs js (l.set j ⟨(fin8 (fsOf fs o.tg) 0 o.sl).sl, o.tg, true⟩)).n⟩
theorem all_runs (f8 : ∀ tg, (fsOf fs tg).length ≤ 8) : ∀ (js : List Nat) (s : La), s.todo = js.reverse → s.done = false → s.op = 0 → (∀ j ∈ js, ∃ o, s.obs[j]? = some o ∧ fsOf fs o.tg ≠ []) →
    Runs fs (further s) (finAll fs js s.obs).n (further { s with todo := [], obs := (finAll fs js s.obs).obs, said := s.said ++ (finAll fs js s.obs).said, held := s.held || (finAll fs js s.obs).held, n := s.n + js.length })
  | [], s, ht, hd, ho, hj => by
    have e : ({ s with todo := [], obs := (finAll fs [] s.obs).obs, said := s.said ++ (finAll fs [] s.obs).said, held := s.held || (finAll fs [] s.obs).held, n := s.n + ([] : List Nat).length } : La) = s := by
      show ({ s with todo := [], obs := s.obs, said := s.said ++ [], held := s.held || false, n := s.n + 0 } : La) = s
      rw [List.append_nil, Bool.or_false, Nat.add_zero]
      have ht : s.todo = [] := ht
      rw [← ht]
    rw [e]
    exact Runs.zero
  | j :: js, s, ht, hd, ho, hj => by
    obtain ⟨o, h1, h2⟩ := hj j (List.mem_cons_self ..)
    have hne : s.todo ≠ [] := by rw [ht]; simp
    have hgl : s.todo.getLast? = some j := by rw [ht, List.reverse_cons, List.getLast?_concat]
    have hdl : s.todo.dropLast = js.reverse := by rw [ht, List.reverse_cons, List.dropLast_concat]
    have e20 : further s = { s with pc := 20 } := by unfold further; rw [if_neg hne]
    obtain ⟨k, hk⟩ := fin_runs0 (fs := fs) (j := j) { s with pc := 20 } o ho (f8 _) rfl hd hgl h1 h2
    obtain ⟨r, hr⟩ : ∃ r, r = fin8 (fsOf fs o.tg) 0 o.sl := ⟨_, rfl⟩
    rw [← hr] at hk
    have hi := (List.getElem?_eq_some_iff.1 h1).1
    obtain ⟨s2, hs2⟩ : ∃ x, x = ({ s with pc := 21, obs := s.obs.set j { o with sl := r.sl }, op := k, said := s.said ++ r.said, held := s.held || r.held } : La) := ⟨_, rfl⟩
    have hk2 : Runs fs (further s) r.n s2 := by rw [e20, hs2]; exact hk
    have hset : s2.obs[j]? = some { o with sl := r.sl } := by rw [hs2]; show (s.obs.set j _)[j]? = _; rw [List.getElem?_set, if_pos rfl, if_pos hi]
    have em : laStep fs s2 = further (markLa s2 j { o with sl := r.sl }) := by
      have hp : s2.pc = 21 := by rw [hs2]
      have hg2 : s2.todo.getLast? = some j := by rw [hs2]; exact hgl
      unfold laStep
      rw [if_neg (by omega), if_neg (by omega), if_neg (by omega), if_neg (by omega), if_pos hp, hg2]
      dsimp only
      rw [hset]
    have hm := Runs.one (fs := fs) (show s2.done = false by rw [hs2]; exact hd)
    rw [em] at hm
    obtain ⟨s3, hs3⟩ : ∃ x, x = markLa s2 j { o with sl := r.sl } := ⟨_, rfl⟩
    rw [← hs3] at hm
    have e3 : s3 = { s with pc := 21, obs := s.obs.set j ⟨r.sl, o.tg, true⟩, op := 0, said := s.said ++ r.said, held := s.held || r.held, todo := js.reverse, n := s.n + 1 } := by
      rw [hs3, hs2]
      unfold markLa
      dsimp only
      rw [hdl, List.set_set]
    have ih := all_runs f8 js s3 (by rw [e3]) (by rw [e3]; exact hd) (by rw [e3]) (fun i hi' => by rw [e3]; exact set_todo (t := js) (o' := ⟨r.sl, o.tg, true⟩) h1 rfl (fun x hx => hj x (List.mem_cons_of_mem _ hx)) i hi')
    have hfin := (hk2.trans hm).trans ih
    have eo : s3.obs = s.obs.set j ⟨r.sl, o.tg, true⟩ := by rw [e3]
    rw [eo] at hfin
    have hA : finAll fs (j :: js) s.obs = ⟨(finAll fs js (s.obs.set j ⟨r.sl, o.tg, true⟩)).obs, r.said ++ (finAll fs js (s.obs.set j ⟨r.sl, o.tg, true⟩)).said, r.held || (finAll fs js (s.obs.set j ⟨r.sl, o.tg, true⟩)).held, r.n + 1 + (finAll fs js (s.obs.set j ⟨r.sl, o.tg, true⟩)).n⟩ := by
      conv => lhs; unfold finAll
      rw [h1]
      dsimp only
      rw [← hr]
    rw [hA]
    have e5 : further ({ s3 with todo := [], obs := (finAll fs js (s.obs.set j ⟨r.sl, o.tg, true⟩)).obs, said := s3.said ++ (finAll fs js (s.obs.set j ⟨r.sl, o.tg, true⟩)).said, held := s3.held || (finAll fs js (s.obs.set j ⟨r.sl, o.tg, true⟩)).held, n := s3.n + js.length } : La) =
        further { s with todo := [], obs := (finAll fs js (s.obs.set j ⟨r.sl, o.tg, true⟩)).obs, said := s.said ++ (r.said ++ (finAll fs js (s.obs.set j ⟨r.sl, o.tg, true⟩)).said), held := s.held || (r.held || (finAll fs js (s.obs.set j ⟨r.sl, o.tg, true⟩)).held), n := s.n + (j :: js).length } := by
      rw [e3]
      unfold further
      simp [List.append_assoc, Bool.or_assoc, ho, Nat.add_assoc, Nat.add_comm 1]
    rw [e5] at hfin
    exact hfin
/-- words made 0 -/
theorem zero_runs : ∀ (k : Nat) (s : La), used s.obs - s.z = k → s.z ≤ used s.obs → s.done = false → Runs fs (zerosLa s) k { s with pc := 25, z := used s.obs }
  | 0, s, hk, hz, hd => by
    have e : s.z = used s.obs := by omega
    unfold zerosLa
    rw [if_neg (by omega), ← e]
    exact Runs.zero
  | k + 1, s, hk, hz, hd => by
    have hl : s.z < used s.obs := by omega
    have e0 : zerosLa s = { s with pc := 24 } := by unfold zerosLa; rw [if_pos hl]
    have e1 : laStep fs (zerosLa s) = zerosLa { s with z := s.z + 1 } := by
      rw [e0]
      unfold laStep zerosLa
      rfl
    refine Runs.step (by rw [e0]; exact hd) ?_
    rw [e1]
    exact zero_runs k { s with z := s.z + 1 } (by show used s.obs - (s.z + 1) = k; omega) (by show s.z + 1 ≤ used s.obs; omega) hd
def la0 (l : List Ob) : La := ⟨17, l, 0, [], 0, [], 0, false, 0, false⟩
/-- which objects: the last one first -/
def todoR (fs : List (List Fo)) (l : List Ob) : List Nat := (todoFrom fs l l.length 0).reverse
abbrev laFa (fs : List (List Fo)) (l : List Ob) : Fa := finAll fs (todoR fs l) l
/-- what it comes to -/
def laEnd (fs : List (List Fo)) (l : List Ob) : La :=
  ⟨if (laFa fs l).held then 22 else 26, (laFa fs l).obs, l.length, [], 0, (laFa fs l).said, (todoR fs l).length, (laFa fs l).held, if (laFa fs l).held then 0 else used (laFa fs l).obs, true⟩
def laN (fs : List (List Fo)) (l : List Ob) : Nat := 2 + l.length + (laFa fs l).n + if (laFa fs l).held then 1 else used (laFa fs l).obs + 3
theorem todoFrom_mem (l : List Ob) : ∀ (k i : Nat), ∀ j ∈ todoFrom fs l k i, ∃ o, l[j]? = some o ∧ isTodo fs o = true ∧ i ≤ j ∧ j < i + k
  | 0, i, j, h => by cases h
  | k + 1, i, j, h => by
    unfold todoFrom at h
    rcases List.mem_append.1 h with h | h
    · cases e : l[i]? with
      | none => rw [e] at h; cases h
      | some o =>
        rw [e] at h
        dsimp only at h
        by_cases ht : isTodo fs o = true
        · rw [if_pos ht] at h
          simp at h
          subst h
          exact ⟨o, e, ht, by omega, by omega⟩
        · rw [if_neg ht] at h; cases h
    · obtain ⟨o, h1, h2, h3, h4⟩ := todoFrom_mem l k (i + 1) j h
      exact ⟨o, h1, h2, by omega, by omega⟩
theorem isTodo_ne {o : Ob} (h : isTodo fs o = true) : fsOf fs o.tg ≠ [] := fun e => by unfold isTodo at h; rw [e] at h; simp at h
theorem la_runs (f8 : ∀ tg, (fsOf fs tg).length ≤ 8) (l : List Ob) : Runs fs (la0 l) (laN fs l) (laEnd fs l) := by
  have h1 : Runs fs (la0 l) 1 { la0 l with pc := 18 } := Runs.one rfl
  have h2 : Runs fs ({ la0 l with pc := 18 } : La) 1 (onLa { la0 l with pc := 18 }) := Runs.one rfl
  have h3 := walk_runs (fs := fs) l.length { la0 l with pc := 18 } rfl rfl
  have h4 := all_runs f8 (todoR fs l) { la0 l with pc := 18, todo := todoFrom fs l l.length 0, i := l.length } (by unfold todoR; rw [List.reverse_reverse]) rfl rfl (fun j hj => by
    unfold todoR at hj
    rw [List.mem_reverse] at hj
    obtain ⟨o, q1, q2, _⟩ := todoFrom_mem l _ _ j hj
    exact ⟨o, q1, isTodo_ne q2⟩)
  have e3 : ({ ({ la0 l with pc := 18 } : La) with todo := ({ la0 l with pc := 18 } : La).todo ++ todoFrom fs ({ la0 l with pc := 18 } : La).obs l.length ({ la0 l with pc := 18 } : La).i, i := max ({ la0 l with pc := 18 } : La).i ({ la0 l with pc := 18 } : La).obs.length } : La) = { la0 l with pc := 18, todo := todoFrom fs l l.length 0, i := l.length } := by
    show ({ la0 l with pc := 18, todo := [] ++ todoFrom fs l l.length 0, i := max 0 l.length } : La) = _
    rw [List.nil_append, Nat.zero_max]
  rw [e3] at h3
  have h5 := ((h1.trans h2).trans h3).trans h4
  obtain ⟨q, hq⟩ : ∃ q, q = laFa fs l := ⟨_, rfl⟩
  have e5 : further ({ ({ la0 l with pc := 18, todo := todoFrom fs l l.length 0, i := l.length } : La) with todo := [], obs := (finAll fs (todoR fs l) l).obs, said := [] ++ (finAll fs (todoR fs l) l).said, held := false || (finAll fs (todoR fs l) l).held, n := 0 + (todoR fs l).length } : La) = ⟨if q.held then 22 else 23, q.obs, l.length, [], 0, q.said, (todoR fs l).length, q.held, 0, false⟩ := by
    rw [hq]
    unfold further
    simp [la0]
  have h6 : Runs fs (la0 l) (2 + l.length + q.n) ⟨if q.held then 22 else 23, q.obs, l.length, [], 0, q.said, (todoR fs l).length, q.held, 0, false⟩ := by
    rw [← e5, hq]
    exact h5
  unfold laN laEnd
  rw [← hq]
  cases hh : q.held with
  | true =>
    rw [hh] at h6
    simp only [if_true] at h6 ⊢
    exact h6.trans (Runs.one rfl)
  | false =>
    rw [hh] at h6
    simp only [Bool.false_eq_true, if_false] at h6 ⊢
    have z1 : Runs fs (⟨23, q.obs, l.length, [], 0, q.said, (todoR fs l).length, false, 0, false⟩ : La) 1 (zerosLa ⟨23, q.obs, l.length, [], 0, q.said, (todoR fs l).length, false, 0, false⟩) := Runs.one rfl
    have z2 := zero_runs (fs := fs) (used q.obs) ⟨23, q.obs, l.length, [], 0, q.said, (todoR fs l).length, false, 0, false⟩ rfl (Nat.zero_le _) rfl
    have z3 : Runs fs (⟨25, q.obs, l.length, [], 0, q.said, (todoR fs l).length, false, used q.obs, false⟩ : La) 1 ⟨26, q.obs, l.length, [], 0, q.said, (todoR fs l).length, false, used q.obs, false⟩ := Runs.one rfl
    have z4 : Runs fs (⟨26, q.obs, l.length, [], 0, q.said, (todoR fs l).length, false, used q.obs, false⟩ : La) 1 ⟨26, q.obs, l.length, [], 0, q.said, (todoR fs l).length, false, used q.obs, true⟩ := Runs.one rfl
    have h7 := h6.trans ((z1.trans z2).trans (z3.trans z4))
    rw [show 2 + l.length + q.n + (used q.obs + 3) = 2 + l.length + q.n + (1 + used q.obs + (1 + 1)) by omega]
    exact h7
end
end Go.Proofs.YtbijaloeilnjoaaGreat

namespace Go.Proofs.YtbijaloeilnjoaaGreat
open Go.RowKit
set_option linter.unusedVariables false
set_option linter.unusedSimpArgs false

/-- what the finalizer of the j-th object comes to -/
def frOf (fs : List (List Fo)) (l : List Ob) (j : Nat) : Fr := match l[j]? with | some o => fin8 (fsOf fs o.tg) 0 o.sl | none => ⟨[], [], false, 0⟩
theorem frOf_set {fs : List (List Fo)} {l : List Ob} {i j : Nat} {x : Ob} (h : i ≠ j) : frOf fs (l.set i x) j = frOf fs l j := by
  unfold frOf
  rw [List.getElem?_set, if_neg h]
theorem finAll_is {fs : List (List Fo)} : ∀ (js : List Nat) (l : List Ob), js.Nodup → (∀ j ∈ js, ∃ o, l[j]? = some o) →
    (finAll fs js l).said = (js.map (frOf fs l)).flatMap (·.said) ∧ (finAll fs js l).held = (js.map (frOf fs l)).any (·.held) ∧ (finAll fs js l).n = ((js.map (frOf fs l)).map fun r => r.n + 1).sum
  | [], l, _, _ => ⟨rfl, rfl, rfl⟩
  | j :: js, l, hn, hj => by
    obtain ⟨o, ho⟩ := hj j (List.mem_cons_self ..)
    obtain ⟨hn1, hn2⟩ := List.nodup_cons.1 hn
    have hf : frOf fs l j = fin8 (fsOf fs o.tg) 0 o.sl := by unfold frOf; rw [ho]
    obtain ⟨h1, h2, h3⟩ := finAll_is js (l.set j ⟨(fin8 (fsOf fs o.tg) 0 o.sl).sl, o.tg, true⟩) hn2 (fun i hi => by
      obtain ⟨o2, h2⟩ := hj i (List.mem_cons_of_mem _ hi)
      exact ⟨o2, by rw [List.getElem?_set, if_neg (fun e => hn1 (by rw [e]; exact hi))]; exact h2⟩)
    have hq : js.map (frOf fs (l.set j ⟨(fin8 (fsOf fs o.tg) 0 o.sl).sl, o.tg, true⟩)) = js.map (frOf fs l) := List.map_congr_left fun i hi => frOf_set (fun e => hn1 (by rw [e]; exact hi))
    rw [hq] at h1 h2 h3
    unfold finAll
    rw [ho]
    dsimp only
    rw [h1, h2, h3, ← hf]
    exact ⟨rfl, rfl, rfl⟩
/-- the objects that are to be finalized, of the i-th one and those behind it: the last one first -/
def todoD (fs : List (List Fo)) (l : List Ob) (i : Nat) : List Nat := (todoFrom fs l (l.length - i) i).reverse
theorem todoD_all (fs : List (List Fo)) (l : List Ob) : todoD fs l 0 = todoR fs l := rfl
theorem todoD_end (fs : List (List Fo)) (l : List Ob) : todoD fs l l.length = [] := by unfold todoD; rw [Nat.sub_self]; rfl
theorem todoD_step {fs : List (List Fo)} {l : List Ob} {i : Nat} {o : Ob} (h : l[i]? = some o) : todoD fs l i = todoD fs l (i + 1) ++ (if isTodo fs o = true then [i] else []) := by
  have hi := (List.getElem?_eq_some_iff.1 h).1
  unfold todoD
  rw [show l.length - i = (l.length - (i + 1)) + 1 by omega]
  conv => lhs; unfold todoFrom
  rw [h]
  dsimp only
  rw [List.reverse_append]
  congr 1
  split <;> rfl
theorem todoFrom_nodup {fs : List (List Fo)} (l : List Ob) : ∀ (k i : Nat), (todoFrom fs l k i).Nodup
  | 0, i => List.nodup_nil
  | k + 1, i => by
    unfold todoFrom
    have ih := todoFrom_nodup (fs := fs) l k (i + 1)
    have hm := todoFrom_mem (fs := fs) l k (i + 1)
    cases e : l[i]? with
    | none => exact ih
    | some o =>
      dsimp only
      split
      · refine List.nodup_cons.2 ⟨fun h => ?_, ih⟩
        obtain ⟨_, _, _, h1, _⟩ := hm i h
        omega
      · exact ih
theorem todoR_nodup (fs : List (List Fo)) (l : List Ob) : (todoR fs l).Nodup := by
  unfold todoR
  exact List.pairwise_reverse.2 ((todoFrom_nodup l _ _).imp fun h => h.symm)
theorem todoR_mem {fs : List (List Fo)} {l : List Ob} : ∀ j ∈ todoR fs l, ∃ o, l[j]? = some o := fun j hj => by
  unfold todoR at hj
  obtain ⟨o, h, _⟩ := todoFrom_mem l _ _ j (List.mem_reverse.1 hj)
  exact ⟨o, h⟩
/-- what is said, whether one holds, and how many there are -/
theorem laFa_is (fs : List (List Fo)) (l : List Ob) : (laFa fs l).said = ((todoR fs l).map (frOf fs l)).flatMap (·.said) ∧ (laFa fs l).held = ((todoR fs l).map (frOf fs l)).any (·.held) :=
  ⟨(finAll_is _ l (todoR_nodup fs l) todoR_mem).1, (finAll_is _ l (todoR_nodup fs l) todoR_mem).2.1⟩
end Go.Proofs.YtbijaloeilnjoaaGreat

namespace Go.Proofs.YtbijaloeilnjoaaGreat
open Go.RowKit
set_option linter.unusedVariables false
set_option linter.unusedSimpArgs false

theorem finAll_obs {fs : List (List Fo)} : ∀ (js : List Nat) (l : List Ob), js.Nodup → (∀ j ∈ js, ∃ o, l[j]? = some o) → ∀ (i : Nat) (o : Ob), (finAll fs js l).obs[i]? = some o → (i ∈ js → o.dn = true) ∧ (i ∉ js → l[i]? = some o)
  | [], l, _, _, i, o, h => ⟨fun hi => (by cases hi), fun _ => h⟩
  | j :: js, l, hn, hj, i, o, h => by
    obtain ⟨o0, ho⟩ := hj j (List.mem_cons_self ..)
    obtain ⟨hn1, hn2⟩ := List.nodup_cons.1 hn
    unfold finAll at h
    rw [ho] at h
    dsimp only at h
    obtain ⟨h1, h2⟩ := finAll_obs js (l.set j ⟨(fin8 (fsOf fs o0.tg) 0 o0.sl).sl, o0.tg, true⟩) hn2 (fun k hk => by
      obtain ⟨o2, h2⟩ := hj k (List.mem_cons_of_mem _ hk)
      exact ⟨o2, by rw [List.getElem?_set, if_neg (fun e => hn1 (by rw [e]; exact hk))]; exact h2⟩) i o h
    refine ⟨fun hi => ?_, fun hi => ?_⟩
    · rcases List.mem_cons.1 hi with rfl | hi
      · have h3 := h2 hn1
        rw [List.getElem?_set, if_pos rfl, if_pos (List.getElem?_eq_some_iff.1 ho).1] at h3
        injection h3 with h3
        rw [← h3]
      · exact h1 hi
    · have h3 := h2 (fun hm => hi (List.mem_cons_of_mem _ hm))
      rwa [List.getElem?_set, if_neg (fun e => hi (by rw [e]; exact List.mem_cons_self ..))] at h3
theorem todoFrom_no {fs : List (List Fo)} {l : List Ob} (h : ∀ (i : Nat) (o : Ob), l[i]? = some o → isTodo fs o = false) : ∀ (k i : Nat), todoFrom fs l k i = []
  | 0, i => rfl
  | k + 1, i => by
    unfold todoFrom
    rw [todoFrom_no h k (i + 1)]
    cases e : l[i]? with
    | none => rfl
    | some o => dsimp only; rw [if_neg (by rw [h i o e]; simp)]; rfl
theorem todoFrom_in {fs : List (List Fo)} {l : List Ob} : ∀ (k i j : Nat) (o : Ob), l[j]? = some o → isTodo fs o = true → i ≤ j → j < i + k → j ∈ todoFrom fs l k i
  | 0, i, j, o, _, _, h1, h2 => by omega
  | k + 1, i, j, o, h, ht, h1, h2 => by
    unfold todoFrom
    by_cases e : i = j
    · subst e
      rw [h]
      dsimp only
      rw [if_pos ht]
      exact List.mem_append_left _ (List.mem_cons_self ..)
    · exact List.mem_append_right _ (todoFrom_in k (i + 1) j o h ht (by omega) (by omega))
theorem todoR_in {fs : List (List Fo)} {l : List Ob} {j : Nat} {o : Ob} (h : l[j]? = some o) (ht : isTodo fs o = true) : j ∈ todoR fs l := by
  unfold todoR
  exact List.mem_reverse.2 (todoFrom_in _ _ j o h ht (Nat.zero_le _) (by have := (List.getElem?_eq_some_iff.1 h).1; omega))
/-- behind the last one none is to be finalized -/
theorem todoR_again (fs : List (List Fo)) (l : List Ob) : todoR fs (laFa fs l).obs = [] := by
  unfold todoR
  rw [todoFrom_no (fs := fs) (fun i o hi => ?_)]
  · rfl
  · obtain ⟨h1, h2⟩ := finAll_obs (todoR fs l) l (todoR_nodup fs l) todoR_mem i o hi
    by_cases hm : i ∈ todoR fs l
    · unfold isTodo
      rw [h1 hm]
      rfl
    · cases ht : isTodo fs o with
      | false => rfl
      | true => exact absurd (todoR_in (h2 hm) ht) hm
theorem laFa_again (fs : List (List Fo)) (l : List Ob) : laFa fs (laFa fs l).obs = ⟨(laFa fs l).obs, [], false, 0⟩ := by
  show finAll fs (todoR fs (laFa fs l).obs) (laFa fs l).obs = _
  rw [todoR_again]
  rfl
end Go.Proofs.YtbijaloeilnjoaaGreat
