/- How the arguments of layer 15's laws are opened: allocations, three bytes each; a case. Words of an arena as a slice. What is known of both scopes. -/
import Derived.Test.YtoadddfiibeenaaT15B
import Derived.Test.YtoadddfiibeenaaWords
import Derived.Lib.SmallJoins
namespace Go.Proofs.Ytoadddfiibeenaa
open Go.RowKit Go.ChangeShapes Go.WideShapes Go.Deep
set_option linter.unusedVariables false
set_option linter.unusedSimpArgs false

theorem wordsL_any (p b : Nat) (ws : List Int) (w : World) (h : Arn w p b ws) (h0 : 0 < ws.length) :
    Calls Try.prog 23 #[.pointer (some ⟨p, 0, none⟩)] w fun r w' => ∃ b1 o1 c1, r = .returned (.slice (some ⟨b1, o1, none⟩) ws.length c1) ∧ (∀ (n : Nat) x, ws[n]? = some x → w'.cell? ⟨b1, o1 + n, none⟩ = some (.int .u64 x)) ∧ w.heap.size ≤ b1 ∧ b1 < w'.heap.size ∧ Below w.heap.size w w' := by
  refine (words_any p b ws w h).mono ?_
  rintro r w' ⟨v, rfl, A, c, rfl, hc, hcs, hn, hb⟩
  obtain ⟨b1, o1, rfl, h1⟩ := hcs (by rw [wd_len]; omega)
  have h2 : ∀ (n : Nat) x, ws[n]? = some x → w'.cell? ⟨b1, o1 + n, none⟩ = some (.int .u64 x) := fun n x hx => h1 n _ (by simp [hx])
  obtain ⟨x, hx⟩ : ∃ x, ws[0]? = some x := ⟨_, List.getElem?_eq_getElem h0⟩
  exact ⟨b1, o1, c, rfl, h2, hn _ rfl, lt_of_cell (h2 0 x hx), hb⟩

/-- three bytes -/
structure N3 where
  x : Int
  y : Int
  z : Int
def n3Cells (t : N3) : List Value := [.int .u8 t.x, .int .u8 t.y, .int .u8 t.z]
structure N3Ok (t : N3) : Prop where
  hx : 0 ≤ t.x ∧ t.x ≤ 255
  hy : 0 ≤ t.y ∧ t.y ≤ 255
  hz : 0 ≤ t.z ∧ t.z ≤ 255
/-- an allocation: where, and of what -/
structure Tkk where
  i : Bool
  n : N3
def tkCells (t : Tkk) : List Value := [.bool t.i, .int .u8 t.n.x, .int .u8 t.n.y, .int .u8 t.n.z]
def TkOk (t : Tkk) : Prop := N3Ok t.n
theorem n3s_at {w : World} {A : Option Addr} {l : List N3} (h : Cells w A (l.flatMap n3Cells)) (h0 : 0 < l.length) : ∃ b off, A = some ⟨b, off, none⟩ ∧ b < w.heap.size ∧
    ∀ k x, l[k]? = some x → w.cell? ⟨b, off + k * 3, none⟩ = some (.int .u8 x.x) ∧ w.cell? ⟨b, off + k * 3 + 1, none⟩ = some (.int .u8 x.y) ∧ w.cell? ⟨b, off + k * 3 + 2, none⟩ = some (.int .u8 x.z) := by
  obtain ⟨b, off, e, hb, hc⟩ := Cells.at_ h (by rw [flat_length n3Cells 3 (fun _ => rfl)]; omega)
  refine ⟨b, off, e, hb, fun k x hk => ?_⟩
  have hh : ∀ j v, j < 3 → (n3Cells x)[j]? = some v → w.cell? ⟨b, off + (k * 3 + j), none⟩ = some v := fun j v hj hv => hc (k * 3 + j) v (by rw [flat_get n3Cells 3 (fun _ => rfl) l k j hj, hk]; exact hv)
  exact ⟨by simpa using hh 0 _ (by omega) rfl, by rw [Nat.add_assoc]; exact hh 1 _ (by omega) rfl, by rw [Nat.add_assoc]; exact hh 2 _ (by omega) rfl⟩
theorem tks_at {w : World} {A : Option Addr} {l : List Tkk} (h : Cells w A (l.flatMap tkCells)) (h0 : 0 < l.length) : ∃ b off, A = some ⟨b, off, none⟩ ∧ b < w.heap.size ∧
    ∀ k x, l[k]? = some x → w.cell? ⟨b, off + k * 4, none⟩ = some (.bool x.i) ∧ w.cell? ⟨b, off + k * 4 + 1, none⟩ = some (.int .u8 x.n.x) ∧ w.cell? ⟨b, off + k * 4 + 2, none⟩ = some (.int .u8 x.n.y) ∧ w.cell? ⟨b, off + k * 4 + 3, none⟩ = some (.int .u8 x.n.z) := by
  obtain ⟨b, off, e, hb, hc⟩ := Cells.at_ h (by rw [flat_length tkCells 4 (fun _ => rfl)]; omega)
  refine ⟨b, off, e, hb, fun k x hk => ?_⟩
  have hh : ∀ j v, j < 4 → (tkCells x)[j]? = some v → w.cell? ⟨b, off + (k * 4 + j), none⟩ = some v := fun j v hj hv => hc (k * 4 + j) v (by rw [flat_get tkCells 4 (fun _ => rfl) l k j hj, hk]; exact hv)
  exact ⟨by simpa using hh 0 _ (by omega) rfl, by rw [Nat.add_assoc]; exact hh 1 _ (by omega) rfl, by rw [Nat.add_assoc]; exact hh 2 _ (by omega) rfl, by rw [Nat.add_assoc]; exact hh 3 _ (by omega) rfl⟩
section
variable {H : Type} {enc : TypeId × Value → H} {w : World} {base : Nat} {spare : Nat → Bool} {held : Bool}
set_option maxRecDepth 100000 in
theorem n3_of_trod (n : Nat) (cs : List Value) (y : DataW H × List MemPlace) (h : DataW.trod enc Try.prog w base spare held n 44 cs = some y) : ∃ t, cs = n3Cells t ∧ N3Ok t := by
  obtain ⟨xs, m, _, _, hl, hxl, hi⟩ := DataW.trod_array Try.underlying44 h
  have hE : Try.prog.cellsOf 5 = 1 := by kernel_rfl
  have hl3 : cs.length = 3 := hl.trans (by kernel_rfl)
  rw [hE] at hi
  have h0 := hi 0 (by omega)
  have h1 := hi 1 (by omega)
  have h2 := hi 2 (by omega)
  rw [List.getElem?_eq_getElem (by omega)] at h0 h1 h2
  match cs, hl3 with
  | [c0, c1, c2], _ =>
    simp only [List.drop, List.take, Nat.zero_mul, Nat.reduceMul] at h0 h1 h2
    obtain ⟨a, e0, _, w0⟩ := DataW.trod_int Try.underlying5 h0
    obtain ⟨b, e1, _, w1⟩ := DataW.trod_int Try.underlying5 h1
    obtain ⟨c, e2, _, w2⟩ := DataW.trod_int Try.underlying5 h2
    simp at e0 e1 e2
    subst e0 e1 e2
    exact ⟨⟨a, b, c⟩, rfl, ⟨wf_u8 w0, wf_u8 w1, wf_u8 w2⟩⟩
set_option maxRecDepth 100000 in
theorem take_of_trod (n : Nat) (cs : List Value) (y : DataW H × List MemPlace) (h : DataW.trod enc Try.prog w base spare held n 46 cs = some y) : ∃ t, cs = tkCells t ∧ TkOk t := by
  obtain ⟨y0, y1, m, _, hl, h0, h1⟩ := Go.ChangeShapes.trod_struct2 Try.underlying46 h
  have hl4 : cs.length = 4 := hl.trans (by kernel_rfl)
  have k0 : Try.prog.cellsOf 4 = 1 := by kernel_rfl
  have k1 : Try.prog.cellsOf 44 = 3 := by kernel_rfl
  rw [k0] at h0
  rw [k1] at h1
  match cs, hl4 with
  | [c0, c1, c2, c3], _ =>
    simp only [List.drop, List.take] at h0 h1
    obtain ⟨x, hx, _⟩ := DataW.trod_bool Try.underlying4 h0
    obtain ⟨t, ht, hq⟩ := n3_of_trod _ _ _ h1
    simp [n3Cells] at hx ht
    obtain ⟨r1, r2, r3⟩ := ht
    subst hx r1 r2 r3
    exact ⟨⟨x, t⟩, rfl, hq⟩
set_option maxRecDepth 100000 in
theorem open_case15 {r : Reach} {b0 : Nat} {v : Value} {d : DataW H} {p : List MemPlace}
    (hv : Value.okWide Try.prog w r b0 26 v) (h : DataW.Trod enc Try.prog w base spare held 26 v d p) :
    ∃ (A : Option Addr) (k : Nat) (l : List Tkk) (tn : Int), v = .agg #[.slice A l.length k, .int .u64 tn] ∧ (l.length ≤ k ∧ k ≤ maxLen ∧ Cells w A (l.flatMap tkCells) ∧ ∀ t ∈ l, TkOk t) ∧ (0 ≤ tn ∧ tn ≤ 18446744073709551615) := by
  obtain ⟨cs, rfl, _⟩ := okWide_struct Try.underlying26 hv
  obtain ⟨fuel, hf⟩ := h
  obtain ⟨y0, y1, m, _, hl, h0, h1⟩ := Go.ChangeShapes.trod_struct2 Try.underlying26 hf
  have k0 : Try.prog.cellsOf 23 = 1 := by kernel_rfl
  have k1 : Try.prog.cellsOf 24 = 1 := by kernel_rfl
  obtain ⟨cl⟩ := cs
  have hl2 : cl.length = 2 := by
    have : (Value.agg ⟨cl⟩).cells.toList.length = 2 := hl.trans (by kernel_rfl)
    simpa [Value.cells] using this
  rw [k0] at h0
  rw [k1] at h1
  match cl, hl2 with
  | [c0, c1], _ =>
    simp only [Value.cells, List.drop, List.take] at h0 h1
    obtain ⟨tn, e1, _, hw⟩ := DataW.trod_int Try.underlying24 h1
    simp at e1
    subst e1
    have hs : ∃ A n' k, c0 = .slice A n' k := by
      rcases DataW.trod_slice Try.underlying23 h0 with ⟨q, _⟩ | ⟨a, len, cap, _, _, _, _, q, _⟩
      · simp at q; exact ⟨none, 0, 0, q⟩
      · simp at q; exact ⟨some a, len, cap, q⟩
    obtain ⟨A, n', k, rfl⟩ := hs
    obtain ⟨l, rfl, a1, a2, a3, a4⟩ := rows_of (size := 4) tkCells TkOk (by decide) (fun _ => rfl) Try.underlying23 (by kernel_rfl) (take_of_trod (enc := enc) (w := w)) h0
    exact ⟨A, k, l, tn, rfl, ⟨a1, a2, a3, a4⟩, wf_u64 hw⟩
end

/-- of which scope: the immortal one, or the other -/
def cOf (ep : Int) (i : Bool) : Ctl := if i then upC ep else immC
def baOf (im : Int) (i : Bool) : Int := if i then 128 + im else 128
def buOf (im u : Int) (i : Bool) : Int := if i then u else im
structure St2 (im ep u : Int) (n : Nat) (ws : List Int) (t : Bool → Int) : Prop where
  blk : ∀ i, BlkOk 2 ws (chK i) (cOf ep i) (baOf im i) (buOf im u i) (t i)
  len : ws.length = n
def updB (t : Bool → Int) (i : Bool) (x : Int) : Bool → Int := fun j => if j = i then x else t j
theorem chK_inj {i j : Bool} (h : chK i = chK j) : i = j := by cases i <;> cases j <;> simp_all [chK]
section
variable {im ep u : Int} {n : Nat} {ws : List Int} {t : Bool → Int} {i : Bool} {r : Rn} {ch : Sl}
theorem St2.step (S : St2 im ep u n ws t) (R : TkRun (chK i) (cOf ep i) (baOf im i) (buOf im u i) ch r) : St2 im ep u n (takeW ws (chK i) (t i) r) (updB t i (takeT (t i) r)) := by
  refine ⟨fun j => ?_, by rw [takeW_len]; exact S.len⟩
  by_cases e : j = i
  · subst e
    simp only [updB, if_pos]
    exact take_blk (S.blk j) R
  · simp only [updB, if_neg e]
    exact take_blk_other (S.blk i) R (fun h => e (chK_inj h)) (S.blk j)
theorem St2.four (S : St2 im ep u n ws t) (R : TkRun (chK i) (cOf ep i) (baOf im i) (buOf im u i) ch r) (h5 : r.pc = 5) : ∃ t', St2 im ep u n (stepsW ws (chK i) (cOf ep i) (baOf im i) (buOf im u i) (t i) r 4) t' := by
  unfold stepsW
  rw [if_pos rfl]
  exact ⟨_, S.step (tkRun_at R h5 (show 3 < 4 by decide))⟩
end
theorem st2_both {pt im size ep : Int} (H : BothOk pt im size ep) : St2 im ep (up8 size) ((128 + im + 320) / 8).toNat (bothWs im size ep) (fun _ => 0) :=
  ⟨fun i => by cases i; exact both_blk0 H; exact both_blk1 H, bothWs_len _ _ _⟩
/-- what is changed in four steps -/
theorem steps_changes {s : Int} {ws : List Int} {k : Nat} {c : Ctl} {ba bu tp : Int} {r : Rn} {ch : Sl} (B : BlkOk s ws k c ba bu tp) (R : TkRun k c ba bu ch r) (h5 : r.pc = 5) {n : Nat} {x y : Int} (hx : ws[n]? = some x) (hy : (stepsW ws k c ba bu tp r 4)[n]? = some y) :
    y = x ∨ (y ≠ x ∧ tp + 8 * wordsN r.c.a r.c.b ≤ bu ∧ ((n = 8 * k + 3 ∧ y = tp + 8 * wordsN r.c.a r.c.b ∧ 8 * (n : Int) < ba + tp) ∨ 8 * (n : Int) = ba + tp ∨ 8 * (n : Int) = ba + tp + 8)) := by
  by_cases e : y = x
  · exact .inl e
  refine .inr ⟨e, ?_⟩
  rw [steps_words] at hy
  have h1 := B.lo; have h2 := B.ba8; have h3 := B.tp8; have h4 := B.tp0; have h6 := B.lt
  by_cases hf : tp + 8 * wordsN r.c.a r.c.b ≤ bu
  · rw [if_pos hf] at hy
    refine ⟨hf, ?_⟩
    by_cases e1 : n = ((ba + tp) / 8).toNat + 1
    · right; right; omega
    by_cases e2 : n = ((ba + tp) / 8).toNat
    · right; left; omega
    rw [List.getElem?_set, if_neg (fun h => e1 h.symm), List.getElem?_set, if_neg (fun h => e2 h.symm)] at hy
    by_cases e3 : n = 8 * k + 3
    · left
      subst e3
      rw [List.getElem?_set, if_pos rfl, if_pos (List.getElem?_eq_some_iff.1 hx).1] at hy
      injection hy with hy
      exact ⟨rfl, hy.symm, by omega⟩
    · rw [List.getElem?_set, if_neg (fun h => e3 h.symm), hx] at hy
      injection hy with hy
      exact absurd hy.symm e
  · rw [if_neg hf, hx] at hy
    injection hy with hy
    exact absurd hy.symm e
theorem cell_setRow15 {w : World} {g : Nat} {cs : Array Value} {p : Addr} (h : p.block ≠ g) : (w.setRow g cs).cell? p = w.cell? p := by
  unfold World.cell?
  rw [setRow_other w g p.block cs h]
end Go.Proofs.Ytoadddfiibeenaa
