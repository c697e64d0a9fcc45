/- How the arguments of a law are opened: a slice of flat elements as a list; a small array of integers. -/
import Derived.Test.YtconieenkeajiaaLib
import Derived.ProofKit
import Derived.OpenShut
import Derived.JoinedCond
import Derived.Deep.Slices
import Derived.Deep.Fields
import Derived.ChangeSame
namespace Go.Proofs.Ytconieenkeajiaa
open Go.RowKit Go.ChangeShapes Go.WideShapes Go.Deep

theorem list_of {α : Type} {P : Nat → α → Prop} (n : Nat) (h : ∀ i, i < n → ∃ a, P i a) : ∃ l : List α, l.length = n ∧ ∀ i a, l[i]? = some a → P i a := by
  induction n with
  | zero => exact ⟨[], rfl, by simp⟩
  | succ n ih =>
    obtain ⟨l, hl, hp⟩ := ih (fun i hi => h i (by omega))
    obtain ⟨a, ha⟩ := h n (by omega)
    refine ⟨l ++ [a], by simp [hl], fun i b hb => ?_⟩
    rcases Nat.lt_or_ge i n with hi | hi
    · rw [List.getElem?_append_left (by omega)] at hb
      exact hp i b hb
    · have hi' : i < (l ++ [a]).length := (List.getElem?_eq_some_iff.1 hb).1
      simp [hl] at hi'
      obtain rfl : i = n := by omega
      rw [List.getElem?_append_right (by omega), hl] at hb
      simp at hb
      subst hb
      exact ha

section
variable {H : Type} {enc : TypeId × Value → H} {P : Program} {w : World} {base : Nat} {spare : Nat → Bool} {held : Bool}
/-- A slice that came in, each element of 'size' cells: the list that it reads as. -/
theorem rows_of {α : Type} (f : α → List Value) (Q : α → Prop) {t e : TypeId} {fuel size n c : Nat} {A : Option Addr} {x : DataW H × List MemPlace} (hs0 : 0 < size) (hf : ∀ a, (f a).length = size)
    (ht : P.underlying t = some (.slice e)) (hC : P.cellsOf e = size) (hel : ∀ n cs y, DataW.trod enc P w base spare held n e cs = some y → ∃ a, cs = f a ∧ Q a)
    (h : DataW.trod enc P w base spare held fuel t [.slice A n c] = some x) :
    ∃ l : List α, l.length = n ∧ n ≤ c ∧ c ≤ maxLen ∧ Cells w A (l.flatMap f) ∧ ∀ a ∈ l, Q a := by
  rcases open_slice ht h with ⟨h0, _⟩ | ⟨a, len, cap, m, k, D, Pl, hcs, _, hl, hm, hmm, _, hi⟩
  · injection h0 with h0
    injection h0 with hA hn hc
    subst hA; subst hn; subst hc
    exact ⟨[], rfl, Nat.le_refl _, by simp [maxLen], Cells.nil, by simp⟩
  · injection hcs with hcs
    injection hcs with hA hn hc
    subst hA; subst hn; subst hc
    have hnm : n ≤ m := by rw [hmm]; split <;> omega
    obtain ⟨l, hlen, hp⟩ := list_of (P := fun i b => (∀ j v, (f b)[j]? = some v → w.cell? (a.add (i * size + j)) = some v) ∧ Q b) n (fun i him => by
      obtain ⟨cs', hc', ht'⟩ := hi i (by omega)
      rw [hC] at hc'
      obtain ⟨b, rfl, hq⟩ := hel _ _ _ ht'
      refine ⟨b, fun j v hv => ?_, hq⟩
      obtain ⟨_, hcl, hat⟩ := World.cells?_some hc'
      have hj : j < size := by rw [← hf b]; exact (List.getElem?_eq_some_iff.1 hv).1
      rw [← Go.Deep.add_add, hat j hj, hv])
    refine ⟨l, hlen, hl, hm, ?_, ?_⟩
    · intro hpos
      rw [flat_length f size hf] at hpos
      have hl0 : 0 < l.length := Nat.pos_of_mul_pos_right hpos
      obtain ⟨b, o, spot⟩ := a
      obtain ⟨x0, hx0⟩ : ∃ x0, l[0]? = some x0 := ⟨_, List.getElem?_eq_getElem hl0⟩
      have h0 := (hp 0 x0 hx0).1 0 _ (List.getElem?_eq_getElem (by rw [hf]; exact hs0))
      have hspot : spot = none := by simpa [Addr.add] using World.cell?_spot h0
      subst hspot
      refine ⟨b, o, rfl, fun j v hv => ?_⟩
      have hjl : j < l.length * size := by rw [← flat_length f size hf]; exact (List.getElem?_eq_some_iff.1 hv).1
      have hdm : j / size * size + j % size = j := by rw [Nat.mul_comm]; exact Nat.div_add_mod j size
      have hg := flat_get f size hf l (j / size) (j % size) (Nat.mod_lt _ hs0)
      rw [hdm, hv] at hg
      cases hk : l[j / size]? with
      | none => rw [hk] at hg; simp at hg
      | some y =>
        rw [hk] at hg
        have := (hp _ y hk).1 (j % size) v (by simpa using hg.symm)
        rw [hdm, add_mk] at this
        exact this
    · intro y hy
      obtain ⟨i, hi', he⟩ := List.getElem_of_mem hy
      exact (hp i y (by rw [List.getElem?_eq_getElem hi', he])).2

/-- A small array of integers by value. -/
theorem open_arr {r : Reach} {b0 n : Nat} {t e : TypeId} {k : IntKind} {v : Value} {d : DataW H} {p : List MemPlace} (ht : P.underlying t = some (.array n e)) (he : P.underlying e = some (.int k)) (hC : P.cellsOf t = n) (hE : P.cellsOf e = 1)
    (hv : Value.okWide P w r b0 t v) (h : DataW.Trod enc P w base spare held t v d p) : ∃ l : List Int, v = .agg (l.map (Value.int k)).toArray ∧ l.length = n ∧ ∀ x ∈ l, (Lit.int k x).wf = true := by
  simp only [Value.okWide, ht] at hv
  obtain ⟨cs, rfl, hsz, _⟩ := hv
  obtain ⟨fuel, hf⟩ := h
  obtain ⟨xs, m, _, _, _, hxl, hi⟩ := DataW.trod_array ht hf
  have hsz' : cs.size = n := hsz.trans hC
  obtain ⟨l, hl, hp⟩ := list_of (P := fun i (z : Int) => cs[i]? = some (.int k z) ∧ (Lit.int k z).wf = true) n (fun i him => by
    have h1 := hi i him
    rw [hE, List.getElem?_eq_getElem (by omega)] at h1
    obtain ⟨z, hz, _, hw⟩ := DataW.trod_int he h1
    refine ⟨z, ?_, hw⟩
    simp only [Nat.mul_one, Value.cells] at hz
    rw [List.drop_eq_getElem_cons (by rw [Array.length_toList]; omega)] at hz
    simp at hz
    rw [Array.getElem?_eq_getElem (by omega), hz])
  refine ⟨l, ?_, hl, fun x hx => ?_⟩
  · congr 1
    apply Array.ext_getElem?
    intro i
    rcases Nat.lt_or_ge i n with hi' | hi'
    · obtain ⟨z, hz⟩ : ∃ z, l[i]? = some z := ⟨_, List.getElem?_eq_getElem (by omega)⟩
      rw [(hp i z hz).1]
      simp [hz]
    · rw [Array.getElem?_eq_none (by omega), Array.getElem?_eq_none (by simp; omega)]
  · obtain ⟨i, hi', he'⟩ := List.getElem_of_mem hx
    exact (hp i x (by rw [List.getElem?_eq_getElem hi', he'])).2

theorem open_arr2 {r : Reach} {b0 : Nat} {t e : TypeId} {k : IntKind} {v : Value} {d : DataW H} {p : List MemPlace} (ht : P.underlying t = some (.array 2 e)) (he : P.underlying e = some (.int k)) (hC : P.cellsOf t = 2) (hE : P.cellsOf e = 1)
    (hv : Value.okWide P w r b0 t v) (h : DataW.Trod enc P w base spare held t v d p) : ∃ a b : Int, v = .agg #[.int k a, .int k b] ∧ (Lit.int k a).wf = true ∧ (Lit.int k b).wf = true := by
  obtain ⟨l, rfl, hl, hw⟩ := open_arr ht he hC hE hv h
  match l, hl with
  | [a, b], _ => exact ⟨a, b, rfl, hw a (by simp), hw b (by simp)⟩
theorem open_arr3 {r : Reach} {b0 : Nat} {t e : TypeId} {k : IntKind} {v : Value} {d : DataW H} {p : List MemPlace} (ht : P.underlying t = some (.array 3 e)) (he : P.underlying e = some (.int k)) (hC : P.cellsOf t = 3) (hE : P.cellsOf e = 1)
    (hv : Value.okWide P w r b0 t v) (h : DataW.Trod enc P w base spare held t v d p) : ∃ a b c : Int, v = .agg #[.int k a, .int k b, .int k c] ∧ (Lit.int k a).wf = true ∧ (Lit.int k b).wf = true ∧ (Lit.int k c).wf = true := by
  obtain ⟨l, rfl, hl, hw⟩ := open_arr ht he hC hE hv h
  match l, hl with
  | [a, b, c], _ => exact ⟨a, b, c, rfl, hw a (by simp), hw b (by simp), hw c (by simp)⟩
end

theorem wf_int {x : Int} (h : (Lit.int .i64 x).wf = true) : -9223372036854775808 ≤ x ∧ x ≤ 9223372036854775807 := by
  simpa [Lit.wf, IntKind.min, IntKind.max, IntKind.signed, IntKind.bits] using h
theorem wf_u8 {x : Int} (h : (Lit.int .u8 x).wf = true) : 0 ≤ x ∧ x ≤ 255 := by
  simpa [Lit.wf, IntKind.min, IntKind.max, IntKind.signed, IntKind.bits] using h
theorem wf_u16 {x : Int} (h : (Lit.int .u16 x).wf = true) : 0 ≤ x ∧ x ≤ 65535 := by
  simpa [Lit.wf, IntKind.min, IntKind.max, IntKind.signed, IntKind.bits] using h
theorem wf_u64 {x : Int} (h : (Lit.int .u64 x).wf = true) : 0 ≤ x ∧ x ≤ 18446744073709551615 := by
  simpa [Lit.wf, IntKind.min, IntKind.max, IntKind.signed, IntKind.bits] using h

end Go.Proofs.Ytconieenkeajiaa
