/- Layer 14 in plain terms: words that read as scopes; what a scope that is made, or unmade, makes of them. Layer 14: scopes in an arena, with their ground; the walk of a block's get. -/
import Derived.Test.YtbijaloeilnjoaaGreatMJ
import Derived.Test.YtbijaloeilnjoaaGreatFN
import Derived.Test.YtbijaloeilnjoaaGreatFound
import Derived.Test.YtbijaloeilnjoaaGreatRT
namespace Go.Proofs.YtbijaloeilnjoaaGreat
open Go.RowKit
set_option linter.unusedVariables false
set_option linter.unusedSimpArgs false

/-- words that read as scopes -/
structure WsS (ws : List Int) (S : Sco) : Prop where
 blk : ∀ (k : Nat) s, S.l[k]? = some s → ws[8 * k]? = some (word s.c) ∧ ws[8 * k + 1]? = some s.x.1 ∧ ws[8 * k + 2]? = some s.x.2
 len : 8 * S.l.length ≤ ws.length
def madeWs (ws : List Int) (k : Nat) (c : Ctl) (a z : Int) : List Int := ((((ws.set (8 * k) (word c)).set (8 * k + 1) a).set (8 * k + 2) z).set (8 * k + 3) 0).set (8 * k + 4) 0
def goneWs (ws : List Int) (k : Nat) (c : Ctl) : List Int := ((ws.set (8 * k) (word c)).set (8 * k + 1) 0).set (8 * k + 2) 0
theorem made_len (ws : List Int) (k : Nat) (c : Ctl) (a z : Int) : (madeWs ws k c a z).length = ws.length := by simp [madeWs]
theorem gone_len (ws : List Int) (k : Nat) (c : Ctl) : (goneWs ws k c).length = ws.length := by simp [goneWs]
theorem made_other (ws : List Int) (k : Nat) (c : Ctl) (a z : Int) (j : Nat) (h : j / 8 ≠ k) : (madeWs ws k c a z)[j]? = ws[j]? := by
 unfold madeWs
 repeat rw [List.getElem?_set, if_neg (by omega)]
theorem gone_other (ws : List Int) (k : Nat) (c : Ctl) (j : Nat) (h : j / 8 ≠ k) : (goneWs ws k c)[j]? = ws[j]? := by
 unfold goneWs
 repeat rw [List.getElem?_set, if_neg (by omega)]
theorem WsS.lt {ws : List Int} {S : Sco} (h : WsS ws S) {k : Nat} (hk : k < S.l.length) : 8 * k + 8 ≤ ws.length := by have := h.len; omega
theorem WsS.made {ws : List Int} {S : Sco} (h : WsS ws S) {k : Nat} (hk : k < S.l.length) (c : Ctl) (a z : Int) (F : List Ext) : WsS (madeWs ws k c a z) ⟨S.l.set k ⟨c, (a, z)⟩, F⟩ := by
 have hl := h.lt hk
 refine ⟨fun j s hs => ?_, by rw [made_len]; simpa using h.len⟩
 simp only [List.getElem?_set] at hs
 by_cases e : k = j
 ·subst e
  rw [if_pos rfl, if_pos hk] at hs
  injection hs with hs
  subst hs
  unfold madeWs
  refine ⟨?_, ?_, ?_⟩
  ·repeat rw [List.getElem?_set, if_neg (by omega)]
   rw [List.getElem?_set, if_pos rfl, if_pos (by omega)]
  ·rw [List.getElem?_set, if_neg (by omega), List.getElem?_set, if_neg (by omega), List.getElem?_set, if_neg (by omega), List.getElem?_set, if_pos rfl, if_pos (by simp; omega)]
  ·rw [List.getElem?_set, if_neg (by omega), List.getElem?_set, if_neg (by omega), List.getElem?_set, if_pos rfl, if_pos (by simp; omega)]
 ·rw [if_neg e] at hs
  rw [made_other _ _ _ _ _ _ (by omega), made_other _ _ _ _ _ _ (by omega), made_other _ _ _ _ _ _ (by omega)]
  exact h.blk j s hs
theorem WsS.gone {ws : List Int} {S : Sco} (h : WsS ws S) {k : Nat} (hk : k < S.l.length) (c : Ctl) (F : List Ext) : WsS (goneWs ws k c) ⟨S.l.set k ⟨c, (0, 0)⟩, F⟩ := by
 have hl := h.lt hk
 refine ⟨fun j s hs => ?_, by rw [gone_len]; simpa using h.len⟩
 simp only [List.getElem?_set] at hs
 by_cases e : k = j
 ·subst e
  rw [if_pos rfl, if_pos hk] at hs
  injection hs with hs
  subst hs
  unfold goneWs
  refine ⟨?_, ?_, ?_⟩
  ·repeat rw [List.getElem?_set, if_neg (by omega)]
   rw [List.getElem?_set, if_pos rfl, if_pos (by omega)]
  ·rw [List.getElem?_set, if_neg (by omega), List.getElem?_set, if_pos rfl, if_pos (by simp; omega)]
  ·rw [List.getElem?_set, if_pos rfl, if_pos (by simp; omega)]
 ·rw [if_neg e] at hs
  rw [gone_other _ _ _ _ (by omega), gone_other _ _ _ _ (by omega), gone_other _ _ _ _ (by omega)]
  exact h.blk j s hs
theorem wsS_new {s t i h : Int} (H : PlanOk s t i h) : WsS (newWs s i h) (newS ⟨s, t, i, h⟩) := by
 obtain ⟨s0, s1, t0, t1, i0, i1, h0, h1, i8, h8⟩ := H
 have hl : (newS ⟨s, t, i, h⟩).l.length = s.toNat := by simp [newS]; omega
 refine ⟨fun k x hx => ?_, by rw [hl, newWs_len]; omega⟩
 have hk : k < s.toNat := by rw [← hl]; exact (List.getElem?_eq_some_iff.1 hx).1
 have hm : 8 * k + 2 < ((64 * s + i + h) / 8).toNat := by omega
 unfold newWs
 cases k with
 | zero =>
  simp only [newS, List.getElem?_cons_zero] at hx
  injection hx with hx
  subst hx
  refine ⟨?_, ?_, ?_⟩
  ·rw [List.getElem?_set, if_neg (by omega), List.getElem?_set, if_neg (by omega), List.getElem?_set, if_pos rfl, if_pos (by simp; omega)]; rfl
  ·rw [List.getElem?_set, if_neg (by omega), List.getElem?_set, if_pos rfl, if_pos (by simp; omega)]
   simp only
   rw [Int.mul_comm]
  ·rw [List.getElem?_set, if_pos rfl, if_pos (by simp; omega)]
 | succ k =>
  simp only [newS, List.getElem?_cons_succ, List.getElem?_replicate] at hx
  split at hx
  ·injection hx with hx
   subst hx
   have hz : ∀ j, 3 ≤ j → j < ((64 * s + i + h) / 8).toNat → ((((List.replicate ((64 * s + i + h) / 8).toNat (0:Int)).set 0 (word immC)).set 1 (64 * s)).set 2 i)[j]? = some 0 := fun j h3 hj => by
    rw [List.getElem?_set, if_neg (by omega), List.getElem?_set, if_neg (by omega), List.getElem?_set, if_neg (by omega), List.getElem?_replicate, if_pos hj]
   exact ⟨hz _ (by omega) (by omega), hz _ (by omega) (by omega), hz _ (by omega) (by omega)⟩
  ·cases hx

/-- what becomes of the words -/
def createW (n : Int) (S : Sco) (ws : List Int) : List Int := match freeAt S.l with
 | none => ws
 | some k => match S.l[k]? with
  | none => ws
  | some s => if (createS n S).1.2 = 0 then madeWs ws k ⟨1, s.c.n, s.c.p, s.c.ep⟩ (carveF (up8 n) S.F).1 (up8 n) else ws
def destroyW (i : Int) (S : Sco) (ws : List Int) : List Int := match S.l[i.toNat]? with
 | none => ws
 | some s => if s.c.st = 1 then goneWs ws i.toNat ⟨0, 0, -1, (s.c.ep + 1) % 16777216⟩ else ws
theorem createW_refused {n : Int} {S : Sco} {ws : List Int} (h : (createS n S).1.2 ≠ 0) : createW n S ws = ws := by
 unfold createW
 split
 ·rfl
 ·split
  ·rfl
  ·rw [if_neg h]
theorem createS_num {n : Int} {S : Sco} (h : (createS n S).1.2 = 0) : ∃ (k : Nat) (s : Sc), (createS n S).1.1 = k ∧ freeAt S.l = some k ∧ S.l[k]? = some s := by
 cases hin : inB n 1 8192 with
 | false => rw [createS_bad hin] at h; cases h
 | true =>
  cases hf : freeAt S.l with
  | none => rw [createS_many hin hf] at h; cases h
  | some k =>
   obtain ⟨s, hs, _⟩ := findIdx_some hf
   rw [createS_at hin hf hs] at h ⊢
   split at h
   ·rename_i hc
    rw [if_pos hc]
    exact ⟨k, s, rfl, rfl, hs⟩
   ·cases h
theorem WsS.create {ws : List Int} {S : Sco} (h : WsS ws S) (n : Int) : WsS (createW n S ws) (createS n S).2 := by
 by_cases h0 : (createS n S).1.2 = 0
 ·obtain ⟨k, s, h1, h2, h3⟩ := createS_num h0
  have hk := (List.getElem?_eq_some_iff.1 h3).1
  have hin : inB n 1 8192 = true := by
   cases hin : inB n 1 8192 with
   | false => rw [createS_bad hin] at h0; cases h0
   | true => rfl
  have hc : (carveF (up8 n) S.F).2.1 = true := by
   rw [createS_at hin h2 h3] at h0
   split at h0
   ·rename_i hc; exact hc
   ·cases h0
  unfold createW
  rw [h2]
  simp only [h3]
  rw [if_pos h0, createS_at hin h2 h3, if_pos hc]
  exact h.made hk _ _ _ _
 ·rw [createW_refused h0, createS_refused h0]
  exact h
theorem WsS.destroy {ws : List Int} {S : Sco} (h : WsS ws S) {f e i : Int} (hi : inS i 1 S = true) : WsS (destroyW i S ws) (destroyS f e i S).2 := by
 obtain ⟨k, s, rfl, hk, hs⟩ := inS_yes hi (by decide)
 rw [destroyS_at hi hs]
 unfold destroyW
 rw [Int.toNat_natCast, hs]
 simp only
 by_cases h1 : s.c.st = 1
 ·rw [if_pos h1, if_neg (by omega), if_pos h1]
  exact h.gone hk _ _
 ·rw [if_neg h1]
  by_cases h0 : s.c.st = 0
  ·rw [if_pos h0]; exact h
  ·rw [if_neg h0, if_neg h1]; exact h

end Go.Proofs.YtbijaloeilnjoaaGreat

namespace Go.Proofs.YtbijaloeilnjoaaGreat
open Go.RowKit
set_option linter.unusedVariables false
set_option linter.unusedSimpArgs false

theorem yieldsIf_load_row {P : Program} {ops : Array Oper} {S : World → Prop} {op : Oper} {a : Act} (hw : Region.wanted op (yielded ops a.tmps) = true) (ty : TypeId) (x : Operand) (ho : op.op = .load ty x)
  (g : Nat) (hx : a.eval x = .pointer (some ⟨g, 0, none⟩)) (cs : Array Value) {t : TypeId} {fr : Nat × Nat} {d : TypeDesc} (hS : ∀ w, S w → w.heap[g]? = some (.cells cs t fr))
  (hu : P.underlying ty = some d) (hd : (match d with | .struct _ | .array _ _ => true | _ => false) = true) (hi : (P.info? ty).map (·.size) = some cs.size) : YieldsIf P ops S op (.agg cs) a :=
 .inl ⟨hw, fun w hw' => by
  unfold execOp
  simp only [ho, hx, Instr.loadAt, Instr.sureAddr, Sem.run_bind, Sem.run_pure, Result.andThen_ok, run_loadVar_row w g t ty cs fr d (hS w hw') hu hd hi]⟩
structure Fs (B : Nat) (w : World) (p b g : Nat) (q : Option Nat) (f e : Int) (S : Sco) (ws : List Int) : Prop where
 a : Arn w p b ws
 gr : Gr B w g f e S.F q
 s : WsS ws S
 ok : ∀ x ∈ S.l, ScOk x
 sz : ∀ x ∈ S.l, 0 ≤ x.x.2 ∧ x.x.2 ≤ 131072
 n1 : 1 ≤ S.l.length
 n8 : S.l.length ≤ 8
 low : B ≤ p ∧ B ≤ b
 ne : g ≠ p ∧ g ≠ b ∧ ∀ i, q = some i → i ≠ p ∧ i ≠ b
/-- the blocks that a step may change -/
abbrev FsT (b g : Nat) (q : Option Nat) : List Nat := b :: g :: q.toList
/-- the row of what is free is the same, or a new one -/
def NewQ (w : World) (q q' : Option Nat) : Prop := ∀ i, q' = some i → q = some i ∨ w.heap.size ≤ i
section
variable {B : Nat} {w w' : World} {p b g : Nat} {q q' : Option Nat} {f e : Int} {S : Sco} {ws : List Int}
theorem Fs.below (h : Fs B w p b g q f e S ws) (hb : Below w.heap.size w w') : Fs B w' p b g q f e S ws := { h with a := h.a.below hb, gr := h.gr.below hb }
theorem Fs.lt (h : Fs B w p b g q f e S ws) : p < w.heap.size ∧ b < w.heap.size ∧ g < w.heap.size ∧ (∀ i, q = some i → i < w.heap.size) :=
 ⟨lt_of_heap h.a.box, lt_of_heap h.a.row, h.gr.lt.1, fun i hi => (h.gr.lt.2 i hi).1⟩
theorem Fs.ges (h : Fs B w p b g q f e S ws) : ∀ i ∈ FsT b g q, B ≤ i ∧ i < w.heap.size := by
 intro i hi
 rcases List.mem_cons.1 hi with rfl | hi
 ·exact ⟨h.low.2, h.lt.2.1⟩
 ·exact ⟨h.gr.blocks i hi, by
   rcases List.mem_cons.1 hi with rfl | hi
   ·exact h.lt.2.2.1
   ·exact h.lt.2.2.2 i (by simpa using hi)⟩
theorem Fs.under (h : Fs B w p b g q f e S ws) {a : World} (hb : Below B a w) (k : Keep (FsT b g q) w w') : Below B a w' :=
 Keep.under hb k (Nat.le_trans h.low.2 (Nat.le_of_lt h.lt.2.1)) (fun i hi => (h.ges i hi).1)
theorem Fs.fresh (h : Fs B w p b g q f e S ws) {x : Nat} (hx : w.heap.size ≤ x) : x ∉ FsT b g q := fun hm => by have := (h.ges x hm).2; omega
theorem Fs.elder (h : Fs B w p b g q f e S ws) {x : Nat} (hx : x < B) : x ∉ FsT b g q := fun hm => by have := (h.ges x hm).1; omega
theorem NewQ.refl : NewQ w q q := fun i hi => .inl hi
theorem Fs.put (h : Fs B w p b g q f e S ws) {ws' : List Int} (hA : Arn w' p b ws') (k : Keep [b] w w') (hs : WsS ws' S) : Fs B w' p b g q f e S ws' :=
 { h with a := hA, gr := h.gr.kept k (by simpa using h.ne.2.1) (fun i hi => by simpa using (h.ne.2.2 i hi).2), s := hs }
theorem Fs.kept {T : List Nat} (h : Fs B w p b g q f e S ws) (k : Keep T w w') (hT : ∀ i ∈ T, i ∉ p :: FsT b g q) : Fs B w' p b g q f e S ws :=
 { h with a := h.a.kept k (fun hm => hT _ hm (by simp)) (fun hm => hT _ hm (by simp)), gr := h.gr.kept k (fun hm => hT _ hm (by simp)) (fun i hi hm => hT _ hm (by simp [hi])) }
end
theorem Keep.sub {S T : List Nat} {w w' : World} (h : Keep S w w') (hs : ∀ i ∈ S, i ∈ T) : Keep T w w' := h.mono fun i _ hi => hs i hi
theorem sco_fine {f e : Int} {S : Sco} {n : Int} (h : ∀ x ∈ S.l, ScOk x) (hc : Canon f e S.F) (f0 : 0 ≤ f) (e1 : e ≤ 131072) : ∀ x ∈ (createS n S).2.l, ScOk x := by
 intro x hx
 by_cases h0 : (createS n S).1.2 = 0
 ·obtain ⟨k, s, h1, h2, h3⟩ := createS_num h0
  have hin : inB n 1 8192 = true := by
   cases hin : inB n 1 8192 with
   | false => rw [createS_bad hin] at h0; cases h0
   | true => rfl
  rw [createS_at hin h2 h3] at hx h0
  split at hx
  ·rename_i hc2
   rcases List.mem_or_eq_of_mem_set hx with hx | hx
   ·exact h x hx
   ·subst hx
    have hs := h s (List.mem_of_getElem? h3)
    obtain ⟨r1, r2, r3⟩ := hs.r
    have hst : s.c.st = 0 := by
     obtain ⟨y, hy, _, h4, _⟩ := findIdx_some h2
     rw [h3] at hy
     injection hy with hy
     subst hy
     simpa using h4
    obtain ⟨hcv1, hcv2, _, _, hcv3⟩ := (carve_got hc hc2).2.2.2.1
    simp only at hcv1 hcv2 hcv3
    exact ⟨⟨r1, r2, .inl ⟨.inr rfl, by simp only; omega, by simp only; omega⟩⟩, by simp only; omega, by simp only; omega⟩
  ·exact h x hx
 ·rw [createS_refused h0] at hx
  exact h x hx
theorem sco_size {S : Sco} {n : Int} (h : ∀ x ∈ S.l, 0 ≤ x.x.2 ∧ x.x.2 ≤ 131072) : ∀ x ∈ (createS n S).2.l, 0 ≤ x.x.2 ∧ x.x.2 ≤ 131072 := by
 intro x hx
 by_cases h0 : (createS n S).1.2 = 0
 ·obtain ⟨k, s, h1, h2, h3⟩ := createS_num h0
  have hin : inB n 1 8192 = true := by
   cases hin : inB n 1 8192 with
   | false => rw [createS_bad hin] at h0; cases h0
   | true => rfl
  have hu := up8_ok hin
  rw [createS_at hin h2 h3] at hx
  split at hx
  ·rcases List.mem_or_eq_of_mem_set hx with hx | hx
   ·exact h x hx
   ·subst hx
    simp only
    omega
  ·exact h x hx
 ·rw [createS_refused h0] at hx
  exact h x hx


end Go.Proofs.YtbijaloeilnjoaaGreat
