/- What is told of scopes by the laws, in plain terms. -/
import Derived.Test.YtcicpfhbpcdjcaaScG
namespace Go.Proofs.Ytcicpfhbpcdjcaa
open Go.RowKit

theorem doesS_cases (f e : Int) (k i n : Int) (S : Sco) (Q : (Int × Int) × Sco → Prop)
    (h0 : k % 7 = 0 → Q (createS n S)) (h1 : k % 7 = 1 → Q ((0, (destroyS f e i S).1), (destroyS f e i S).2)) (h2 : k % 7 = 2 ∨ k % 7 = 3 → Q ((0, (enterS i n S).1), (enterS i n S).2)) (h4 : k % 7 = 4 → Q ((0, (leaveS i S).1), (leaveS i S).2))
    (h5 : k % 7 = 5 → Q ((0, (openS i S).1), (openS i S).2)) (h6 : k % 7 = 6 → Q ((0, (holdS i S).1), (holdS i S).2)) : Q (doesS f e (k, i, n) S) := by
  unfold doesS
  dsimp only
  split
  · exact h0 ‹_›
  · split
    · exact h1 ‹_›
    · split
      · exact h4 ‹_›
      · split
        · exact h5 ‹_›
        · split
          · exact h6 ‹_›
          · exact h2 (by omega)

theorem createS_or (n : Int) (S : Sco) : (createS n S).1.2 = 0 ∨ (createS n S).2 = S := by
  unfold createS
  split
  · exact .inr rfl
  · split
    · exact .inr rfl
    · split
      · exact .inr rfl
      · split
        · exact .inl rfl
        · exact .inr rfl
theorem destroyS_or (f e i : Int) (S : Sco) : (destroyS f e i S).1 = 0 ∨ (destroyS f e i S).2 = S := by
  unfold destroyS
  split
  · exact .inr rfl
  · split
    · exact .inr rfl
    · split
      · exact .inr rfl
      · split
        · exact .inl rfl
        · exact .inr rfl
theorem changeS_or (c : Ctl → Ctl × Int) (i : Int) (S : Sco) : (changeS c i S).1 = 0 ∨ (changeS c i S).2 = S := by
  unfold changeS
  split
  · exact .inr rfl
  · split
    · exact .inr rfl
    · split
      · exact .inl rfl
      · exact .inr rfl
theorem createS_refused {n : Int} {S : Sco} (h : (createS n S).1.2 ≠ 0) : (createS n S).2 = S := (createS_or n S).resolve_left h
theorem destroyS_refused {f e i : Int} {S : Sco} (h : (destroyS f e i S).1 ≠ 0) : (destroyS f e i S).2 = S := (destroyS_or f e i S).resolve_left h
theorem changeS_refused {c : Ctl → Ctl × Int} {i : Int} {S : Sco} (h : (changeS c i S).1 ≠ 0) : (changeS c i S).2 = S := (changeS_or c i S).resolve_left h
theorem doesS_refused {f e : Int} {k i n : Int} {S : Sco} : (doesS f e (k, i, n) S).1.2 ≠ 0 → (doesS f e (k, i, n) S).2 = S :=
  doesS_cases f e k i n S (fun r => r.1.2 ≠ 0 → r.2 = S) (fun _ => createS_refused) (fun _ => destroyS_refused) (fun _ => changeS_refused) (fun _ => changeS_refused) (fun _ => changeS_refused) (fun _ => changeS_refused)
theorem doesS_len (f e : Int) (k i n : Int) (S : Sco) : (doesS f e (k, i, n) S).2.l.length = S.l.length :=
  doesS_cases f e k i n S (fun r => r.2.l.length = S.l.length) (fun _ => createS_len _ _) (fun _ => destroyS_len _ _ _ _) (fun _ => changeS_len _ _ _) (fun _ => changeS_len _ _ _) (fun _ => changeS_len _ _ _) (fun _ => changeS_len _ _ _)

/-- what is changed is one scope, that was told -/
theorem createS_other {n : Int} {S : Sco} {j : Nat} (h : ∀ s, S.l[j]? = some s → s.c.st ≠ 0) : (createS n S).2.l[j]? = S.l[j]? := by
  unfold createS
  split
  · rfl
  · split
    · rfl
    · rename_i i hi
      split
      · rfl
      · rename_i s hs
        split
        · obtain ⟨y, h1, _, h2, _⟩ := findIdx_some hi
          rw [List.getElem?_set, if_neg]
          rintro rfl
          exact h y h1 (by simpa using h2)
        · rfl
theorem inS_low {i lo : Int} {S : Sco} (h : inS i lo S = true) : lo ≤ i := by
  simp only [inS, inB, decide_eq_true_eq] at h
  exact h.1
theorem destroyS_other {f e i : Int} {S : Sco} {j : Nat} (h : (j : Int) ≠ i) : (destroyS f e i S).2.l[j]? = S.l[j]? := by
  unfold destroyS
  split
  · rfl
  · rename_i h1
    have hl := inS_low (by simpa using h1)
    split
    · rfl
    · split
      · rfl
      · split
        · rw [List.getElem?_set, if_neg (by omega)]
        · rfl
theorem changeS_other {c : Ctl → Ctl × Int} {i : Int} {S : Sco} {j : Nat} (h : (j : Int) ≠ i) : (changeS c i S).2.l[j]? = S.l[j]? := by
  unfold changeS
  split
  · rfl
  · rename_i h1
    have hl := inS_low (by simpa using h1)
    split
    · rfl
    · split
      · rw [List.getElem?_set, if_neg (by omega)]
      · rfl
theorem destroyS_zero {f e i : Int} {S : Sco} : (destroyS f e i S).2.l[0]? = S.l[0]? := by
  by_cases h : i = 0
  · subst h
    rw [destroyS_out (by simp [inS, inB])]
  · exact destroyS_other (by simpa using Ne.symm h)
theorem changeS_zero {c : Ctl → Ctl × Int} {i : Int} {S : Sco} : (changeS c i S).2.l[0]? = S.l[0]? := by
  by_cases h : i = 0
  · subst h
    unfold changeS
    rw [if_pos (by simp [inS, inB])]
  · exact changeS_other (by simpa using Ne.symm h)
/-- the immortal scope stays -/
theorem doesS_zero {f e : Int} {k i n : Int} {S : Sco} {x : Sc} (hx : S.l[0]? = some x) (h2 : x.c.st = 2) : (doesS f e (k, i, n) S).2.l[0]? = some x := by
  rw [← hx]
  exact doesS_cases f e k i n S (fun r => r.2.l[0]? = S.l[0]?) (fun _ => createS_other (fun s hs => by rw [hx] at hs; injection hs with hs; subst hs; omega)) (fun _ => destroyS_zero) (fun _ => changeS_zero) (fun _ => changeS_zero) (fun _ => changeS_zero) (fun _ => changeS_zero)

/-- the row of what is free, copied -/
theorem seen_head {l : List Sc} {x : Sc} (h : l[0]? = some x) : (padC l)[0]? = some x.c ∧ (padX l)[0]? = some x.x := ⟨padC_get h, padX_get h⟩
theorem new_head (n : Nat) (t i m : Int) : (newS ⟨n, t, i, m⟩).l[0]? = some ⟨⟨2, 1, -1, 0⟩, ((n : Int) * 64, i)⟩ := rfl
theorem new_len (n : Nat) (h : 1 ≤ n) (t i m : Int) : (newS ⟨n, t, i, m⟩).l.length = n := by
  simp only [newS, Int.toNat_natCast, List.length_cons, List.length_replicate]
  omega

theorem wpList_load_all {w : World} {ops : Array Oper} {rest : List Oper} {o : Oper} {a : Act} {Q : Exit → Act → World → Prop} (x : Operand) (g : Nat) (l : List Sc) (n8 : l.length ≤ 8) (hw : Region.wanted o (yielded ops a.tmps) = true) (ho : o.op = .load 56 x)
    (hx : a.eval x = .pointer (some ⟨g, 0, none⟩)) (hg : w.heap[g]? = some (.cells (seenA l) 56 (0, 0)))
    (h : wpList Try.prog ops Q rest (a.put o.dst (.agg (seenA l))) w) : wpList Try.prog ops Q (o :: rest) a w :=
  wpList_step fun K hK => by
    rw [if_pos hw]
    exact wp_load_row _ x ho g hx _ (seenA l) (0, 0) _ hg undAll rfl (by rw [seen_size n8]; exact infoAll) (hK _ _ h)
theorem wpList_varAll {w : World} {ops : Array Oper} {rest : List Oper} {o2 o3 : Oper} {a : Act} {Q : Exit → Act → World → Prop} (x y : Tmp) (l : List Sc) (n8 : l.length ≤ 8) (g2 : o2.guard = none) (g3 : o3.guard = none)
    (h2 : o2.op = .alloc 56) (h3 : o3.op = .store 56 (.tmp x) (.tmp y)) (d3 : o3.dst = none)
    (e1 : (a.put o2.dst (.pointer (some ⟨w.heap.size, 0, none⟩))).eval (.tmp x) = .pointer (some ⟨w.heap.size, 0, none⟩))
    (e2 : (a.put o2.dst (.pointer (some ⟨w.heap.size, 0, none⟩))).eval (.tmp y) = .agg (seenA l))
    (h : wpList Try.prog ops Q rest (a.put o2.dst (.pointer (some ⟨w.heap.size, 0, none⟩))) (w.alloc (.cells (seenA l) 56))) :
    wpList Try.prog ops Q (o2 :: o3 :: rest) a w := by
  refine wpList_plain g2 fun K hK => ?_
  unfold Oper.wp execOp
  simp only [h2, allocAll, Sem.run_bind, Sem.run_pure, Result.andThen_ok]
  refine hK _ _ (wpList_plain g3 fun K hK => ?_)
  have hst := run_storeAt_new (P := Try.prog) w 56 ZAll (seenA l) (by rw [seen_size n8]; exact infoAll) (by rw [seen_size n8]; exact sizeAll) (seen_one l)
  unfold Oper.wp execOp
  simp only [h3, e1, e2, hst, Sem.run_bind, Sem.run_pure, Result.andThen_ok]
  exact hK _ _ (by rw [d3]; exact h)

theorem below_drew_of {w w' : World} (h : Below w.drew.heap.size w.drew w') : Below w.heap.size w w' := (Below.drew (Below.refl w.heap.size w)).trans h
theorem sc_keep_upto {N : Nat} {w w' : World} (hb : Below N w w') : Keep ((List.range w.heap.size).filter fun k => decide (N ≤ k)) w w' :=
  ⟨hb.os, hb.tape, hb.output, hb.size, fun k hk hn => hb.block k (by
    simp only [List.mem_filter, List.mem_range, decide_eq_true_eq, not_and] at hn
    have := hn hk
    omega)⟩
theorem Scs.upto {N B p b g : Nat} {q : Option Nat} {f e : Int} {S : Sco} {w w' : World} (h : Scs B w p b g q f e S) (hb : Below N w w') (hp : p < N) (hb1 : b < N) (hg : g < N) (hq : ∀ i, q = some i → i < N) : Scs B w' p b g q f e S :=
  h.kept (sc_keep_upto hb) (by simp; omega) (by simp; omega) (by simp; omega) (fun i hi => by have := hq i hi; simp; omega)

end Go.Proofs.Ytcicpfhbpcdjcaa
