/- The walks of scopes' Create and Destroy. -/
import Derived.Test.YtcicpfhbpcdjcaaScB
namespace Go.Proofs.Ytcicpfhbpcdjcaa
open Go.RowKit

set_option maxHeartbeats 400000 in
theorem create1_any (s : Sc) (w : World) :
    Calls Try.prog 43 #[.agg #[.int .i64 s.c.st, .int .i64 s.c.n, .int .i64 s.c.p, .int .i64 s.c.ep, .int .i64 s.x.1, .int .i64 s.x.2]] w fun r w' => r = .returned (.bool (s.c.st == 0)) ∧ Below w.heap.size w w' := by
  go_enter Try.func43, Try.ntmps43
  go_wp2
  go_ret
  exact ⟨rfl, by go_grown⟩

set_option maxHeartbeats 400000 in
theorem find_free (b : Nat) (l : List Sc) (w : World) (hl : l.length ≤ 8) (hr : w.heap[b]? = some (.cells (l.flatMap scCells).toArray 72 (0, 0))) :
    Calls Try.prog 42 #[.slice (some ⟨b, 0, none⟩) l.length l.length, .func (.func 43) #[] #[]] w
      fun r w' => r = .returned (.int .i64 (idxI (freeAt l))) ∧ Below w.heap.size w w' := by
  have HR := Lib.hid hr
  have hbw := lt_of_heap hr
  clear hr
  go_enter Try.func42, Try.ntmps42
  go_wp2
  go_loopw [5, 8] (fun _ t wr => ∃ k : Nat, k ≤ l.length ∧ t = .int .i64 k ∧ (∀ j y, j < k → l[j]? = some y → (fun s : Sc => s.c.st == 0) y = false) ∧ Below w.heap.size w wr)
    (fun _ t _ => l.length - (intOf t).toNat)
  case atStart => exact ⟨0, Nat.zero_le _, rfl, by omega, Below.refl _ _⟩
  case round =>
    obtain ⟨k, hk, rfl, hn, hb⟩ := hrel
    have Hn := Lib.hid hn
    clear hn
    by_cases hlt : k < l.length
    · obtain ⟨s, hv⟩ : ∃ s, l[k]? = some s := ⟨_, List.getElem?_eq_getElem hlt⟩
      obtain ⟨q0, q1, q2, q3, q4, q5⟩ := scs_cells (row_below HR.out hb) hv
      have Hv := Lib.hid hv
      clear hv
      cases hp : (s.c.st == 0) with
      | true =>
        go_wp2_with (go_at_call 43; refine (create1_any s _).mono ?_; rintro e w1 ⟨rfl, hb1⟩; rw [hp])
        go_ret
        exact ⟨by rw [show freeAt l = some k from findIdx_mk Hv.out hp Hn.out]; rfl, below_only hb hb1⟩
      | false =>
        go_wp2_with (go_at_call 43; refine (create1_any s _).mono ?_; rintro e w1 ⟨rfl, hb1⟩; rw [hp])
        go_roundw
        case rel =>
          refine ⟨k + 1, hlt, by go_num, fun j y hj hy => ?_, below_only hb hb1⟩
          rcases Nat.lt_or_ge j k with h | h
          · exact Hn.out j y h hy
          · obtain rfl : j = k := by omega
            rw [Hv.out] at hy
            injection hy with hy
            subst hy
            exact hp
        case measure => simp [intOf]; omega
    · go_wp2
      go_ret
      refine ⟨?_, hb⟩
      have : freeAt l = none := by
        cases h : freeAt l with
        | none => rfl
        | some i =>
          obtain ⟨y, h1, h2, h3, _⟩ := findIdx_some h
          have := Hn.out i y (by omega) h1
          rw [h3] at this
          cases this
      rw [this]
      rfl

/-- where it is refused -/
theorem createS_bad {n : Int} {S : Sco} (h : inB n 1 8192 = false) : createS n S = ((0, 1), S) := by unfold createS; rw [if_pos h]
theorem createS_many {n : Int} {S : Sco} (h : inB n 1 8192 = true) (hf : freeAt S.l = none) : createS n S = ((0, 13), S) := by unfold createS; rw [if_neg (by rw [h]; simp), hf]
theorem createS_at {n : Int} {S : Sco} {i : Nat} {s : Sc} (h : inB n 1 8192 = true) (hf : freeAt S.l = some i) (hs : S.l[i]? = some s) :
    createS n S = if (carveF (up8 n) S.F).2.1 = true then ((((i : Nat) : Int), 0), ⟨S.l.set i ⟨⟨1, s.c.n, s.c.p, s.c.ep⟩, ((carveF (up8 n) S.F).1, up8 n)⟩, (carveF (up8 n) S.F).2.2⟩) else ((0, 14), S) := by
  unfold createS; rw [if_neg (by rw [h]; simp), hf]; simp only [hs]

/-- a scope's state, and its extent, are stored -/
theorem scs_made {w : World} {b : Nat} {l : List Sc} (h : w.heap[b]? = some (.cells (l.flatMap scCells).toArray 72 (0, 0))) {k : Nat} {s : Sc} (hs : l[k]? = some s) (a n : Int) :
    (((w.setCell ⟨b, k * 6, none⟩ (.int .i64 1)).setCell ⟨b, k * 6 + 4, none⟩ (.int .i64 a)).setCell ⟨b, k * 6 + 5, none⟩ (.int .i64 n)).heap[b]? = some (.cells ((l.set k ⟨⟨1, s.c.n, s.c.p, s.c.ep⟩, (a, n)⟩).flatMap scCells).toArray 72 (0, 0)) := by
  have hk := (List.getElem?_eq_some_iff.1 hs).1
  have get : ∀ t : Sc, (l.set k t)[k]? = some t := fun t => by rw [List.getElem?_set]; simp [hk]
  have h1 := scs_store h hs 0 (by omega) (.int .i64 1) ⟨⟨1, s.c.n, s.c.p, s.c.ep⟩, s.x⟩ rfl
  have h2 := scs_store h1 (get _) 4 (by omega) (.int .i64 a) ⟨⟨1, s.c.n, s.c.p, s.c.ep⟩, (a, s.x.2)⟩ rfl
  rw [List.set_set] at h2
  have h3 := scs_store h2 (get _) 5 (by omega) (.int .i64 n) ⟨⟨1, s.c.n, s.c.p, s.c.ep⟩, (a, n)⟩ rfl
  rw [List.set_set] at h3
  exact h3

theorem Scs.made {B p b g : Nat} {q q' : Option Nat} {f e : Int} {S : Sco} {w w' : World} (h : Scs B w p b g q f e S) (k : Keep (ScT b g q) w w') (l : List Sc) (F : List Ext) (hl : l.length = S.l.length) (hr : w'.heap[b]? = some (.cells (l.flatMap scCells).toArray 72 (0, 0))) (ho : ∀ s ∈ l, ScOk s)
    (hg : Gr B w' g f e F q') (hq : Fresh w q q') :
    Scs B w' p b g q' f e ⟨l, F⟩ :=
  { h with
    hd := by
      have := k.row h.hd (by
        intro hm
        rcases List.mem_cons.1 hm with e | hm
        · exact h.ne1 e.symm
        · rcases List.mem_cons.1 hm with e | hm
          · exact h.ne2 e.symm
          · exact h.ne4 (by simpa using hm))
      rw [← hl] at this
      exact this
    row := hr
    gr := hg
    ne4 := fun e => (hq _ e).elim h.ne4 (fun e => by have := h.lt.1; omega)
    ne5 := fun e => (hq _ e).elim h.ne5 (fun e => by have := h.lt.2.1; omega)
    n1 := by rw [hl]; exact h.n1
    n8 := by rw [hl]; exact h.n8
    ok := ho }

theorem Scs.notin {B p b g : Nat} {q : Option Nat} {f e : Int} {S : Sco} {w : World} (h : Scs B w p b g q f e S) : b ∉ g :: q.toList ∧ p ∉ g :: q.toList ∧ p ∉ ScT b g q := by
  have h1 : b ∉ g :: q.toList := by
    intro hm
    rcases List.mem_cons.1 hm with e | hm
    · exact h.ne3 e.symm
    · exact h.ne5 (by simpa using hm)
  have h2 : p ∉ g :: q.toList := by
    intro hm
    rcases List.mem_cons.1 hm with e | hm
    · exact h.ne2 e.symm
    · exact h.ne4 (by simpa using hm)
  refine ⟨h1, h2, fun hm => ?_⟩
  rcases List.mem_cons.1 hm with e | hm
  · exact h.ne1 e.symm
  · exact h2 hm
theorem keep_sct {b g : Nat} {q : Option Nat} {w w' : World} (k : Keep (g :: q.toList) w w') : Keep (ScT b g q) w w' := k.mono fun _ _ hm => List.mem_cons_of_mem _ hm
/-- the ground alone is turned -/
theorem Scs.turned {B p b g : Nat} {q q' : Option Nat} {f e : Int} {S : Sco} {w w' : World} (h : Scs B w p b g q f e S) (k : Keep (g :: q.toList) w w') (F : List Ext) (hg : Gr B w' g f e F q') (hq : Fresh w q q') : Scs B w' p b g q' f e ⟨S.l, F⟩ :=
  h.made (keep_sct k) S.l F rfl (k.row h.row h.notin.1) h.ok hg hq

theorem up8_ok {n : Int} (h : inB n 1 8192 = true) : 8 ≤ up8 n ∧ up8 n ≤ 8192 ∧ up8 n % 8 = 0 ∧ 0 ≤ n ∧ n ≤ 65536 := by
  simp only [inB, decide_eq_true_eq] at h
  unfold up8
  omega

set_option maxHeartbeats 1000000 in
theorem screate_any (B p b g : Nat) (q : Option Nat) (f e : Int) (S : Sco) (n : Int) (w : World) (h : Scs B w p b g q f e S) :
    Calls Try.prog 14 #[.pointer (some ⟨p, 0, none⟩), .int .i64 n] w fun r w' => r = .returned (.tuple #[.int .i64 (createS n S).1.1, .int .i64 (createS n S).1.2]) ∧ Scs B w' p b g q f e (createS n S).2 ∧ Keep (ScT b g q) w w' := by
  have HH := Lib.hid h
  cases hin : inB n 1 8192 with
  | false =>
    rw [createS_bad hin]
    clear h
    go_enter Try.func14, Try.ntmps14
    go_wp2_with (go_at_call 41; refine (within_any _ _ _ _).mono ?_; rintro r w1 ⟨rfl, rfl⟩; rw [hin])
    go_ret2
    exact ⟨rfl, HH.out, Keep.refl _ _⟩
  | true =>
    obtain ⟨u0, u1, u8, n0, n6⟩ := up8_ok hin
    have HF := Lib.hid (find_free b S.l w h.n8 h.row)
    obtain ⟨b0, b1, bf0, bf1⟩ := box2 h.hd
    cases hf : freeAt S.l with
    | none =>
      rw [createS_many hin hf]
      clear h
      go_enter Try.func14, Try.ntmps14
      go_wp2_with (first
        | (go_at_call 41; refine (within_any _ _ _ _).mono ?_; rintro r w1 ⟨rfl, rfl⟩; rw [hin])
        | (go_at_call 42; refine HF.out.mono ?_; rintro r w1 ⟨rfl, hb1⟩; rw [hf]; simp only [idxI]))
      go_ret2
      exact ⟨rfl, HH.out.below hb1, keep_below hb1 _⟩
    | some k =>
      obtain ⟨s, hs, hk, hst, _⟩ := findIdx_some hf
      have hk8 : (k : Int) < (S.l.length : Int) := by omega
      have hk0 : ¬ (k : Int) < 0 := by omega
      have hn8 := h.n8
      rw [createS_at hin hf hs]
      have Hs := Lib.hid hs
      have U8 := Lib.hid u8
      have Hst := Lib.hid hst
      have HC := Lib.hid (fun W (hG : Gr B W g f e S.F q) => carve_any B g f e S.F q (up8 n) W hG)
      clear h hs u8 hst
      cases hc : (carveF (up8 n) S.F).2.1 with
      | false =>
        rw [if_neg (by simp)]
        obtain ⟨HL, HL2⟩ := carve_false hc
        have HL2 := Lib.hid HL2
        go_enter Try.func14, Try.ntmps14
        go_wp2_with (first
          | (go_at_call 41; refine (within_any _ _ _ _).mono ?_; rintro r w1 ⟨rfl, rfl⟩; rw [hin])
          | (go_at_call 42; refine HF.out.mono ?_; rintro r w1 ⟨rfl, hb1⟩; rw [hf]; simp only [idxI]; obtain ⟨b0', b1', bf0', bf1'⟩ := box2 (row_below HH.out.hd hb1); clear b0 b1 bf0 bf1)
          | (go_at_call 44; refine (up_any n _ n0 n6).mono ?_; rintro r w2 ⟨rfl, rfl⟩)
          | (go_at_call 45; refine (HC.out _ (HH.out.gr.below hb1)).mono ?_; rintro r w3 ⟨rfl, hG, hk3⟩; rw [hc]; clear b0' b1' bf0' bf1'))
        go_ret2
        have h1 := HH.out.below hb1
        have hs := h1.turned hk3 _ hG (fun i hi => .inl hi)
        rw [HL2.out] at hs
        exact ⟨rfl, hs, (keep_below hb1 _).trans (keep_sct hk3)⟩
      | true =>
        rw [if_pos rfl]
        have HG := Lib.hid (carve_got HH.out.gr.can hc)
        go_enter Try.func14, Try.ntmps14
        go_wp2_with (first
          | (go_at_call 41; refine (within_any _ _ _ _).mono ?_; rintro r w1 ⟨rfl, rfl⟩; rw [hin])
          | (go_at_call 42; refine HF.out.mono ?_; rintro r w1 ⟨rfl, hb1⟩; rw [hf]; simp only [idxI]; obtain ⟨b0', b1', bf0', bf1'⟩ := box2 (row_below HH.out.hd hb1); clear b0 b1 bf0 bf1)
          | (go_at_call 44; refine (up_any n _ n0 n6).mono ?_; rintro r w2 ⟨rfl, rfl⟩)
          | (go_at_call 45; refine (HC.out _ (HH.out.gr.below hb1)).mono ?_; rintro r w3 ⟨rfl, hG, hk3⟩; rw [hc]; have H1 := Lib.hid (HH.out.below hb1); have K1 := Lib.hid (keep_below hb1 (ScT b g q)); have H3 := Lib.hid (H1.out.turned hk3 _ hG (fun i hi => .inl hi)); have K3 := Lib.hid hk3; have G3 := Lib.hid hG; clear b0' b1' bf0' bf1' hb1 hG hk3; obtain ⟨c0, c1, cf0, cf1⟩ := box2 H3.out.hd; dsimp only at c0; have f0 := row_frozen H3.out.row (k * 6); have f4 := row_frozen H3.out.row (k * 6 + 4); have f5 := row_frozen H3.out.row (k * 6 + 5); obtain ⟨q0, q1, q2, q3, q4, q5⟩ := scs_cells H3.out.row Hs.out; have hb3 := lt_of_heap H3.out.row; have hp3 := lt_of_heap H3.out.hd; have hbp := H3.out.ne1))
        go_ret2
        obtain ⟨g1, g2, g3, ⟨g4, g5, g6, g7, g8⟩, _, _, _⟩ := HG.out
        have K := (((K1.out.trans (keep_sct K3.out)).setCell (p := ⟨b, k * 6, none⟩) (.inl (by simp)) (.int .i64 1)).setCell (p := ⟨b, k * 6 + 4, none⟩) (.inl (by simp)) (.int .i64 (carveF (up8 n) S.F).1)).setCell (p := ⟨b, k * 6 + 5, none⟩) (.inl (by simp)) (.int .i64 (up8 n))
        have KG := (((Keep.refl [b] w3).setCell (p := ⟨b, k * 6, none⟩) (.inl (by simp)) (.int .i64 1)).setCell (p := ⟨b, k * 6 + 4, none⟩) (.inl (by simp)) (.int .i64 (carveF (up8 n) S.F).1)).setCell (p := ⟨b, k * 6 + 5, none⟩) (.inl (by simp)) (.int .i64 (up8 n))
        have hf0 := HH.out.gr.f0
        have he1 := HH.out.gr.e1
        have hso := HH.out.ok s (List.mem_of_getElem? Hs.out)
        refine ⟨rfl, HH.out.made K _ _ (List.length_set ..) (scs_made H3.out.row Hs.out _ _) (fun t ht => (mem_set_or ht).elim (fun e => ?_) (HH.out.ok t)) (G3.out.kept KG (by simpa using HH.out.ne3) (fun i hi => by simp; rintro rfl; exact HH.out.ne5 hi)) (fun i hi => .inl hi), K⟩
        subst e
        obtain ⟨r1, r2, r3⟩ := hso.r
        have hst := Hst.out
        simp only [beq_iff_eq] at hst
        rw [hst] at r3
        exact ⟨⟨r1, r2, .inl ⟨.inr rfl, by simp only; omega, by simp only; omega⟩⟩, by simp only at g4 ⊢; omega, by simp only at g5 g8 ⊢; omega⟩

/-- where it is refused -/
theorem destroyS_out {f e i : Int} {S : Sco} (h : inS i 1 S = false) : destroyS f e i S = (11, S) := by unfold destroyS; rw [if_pos h]
theorem destroyS_at {f e : Int} {k : Nat} {S : Sco} {s : Sc} (h : inS k 1 S = true) (hs : S.l[k]? = some s) :
    destroyS f e k S = if s.c.st = 0 then (11, S) else if s.c.st = 1 then (0, ⟨S.l.set k ⟨⟨0, 0, -1, (s.c.ep + 1) % 16777216⟩, (0, 0)⟩, (giveF f e s.x.1 s.x.2 S.F).2⟩) else (12, S) := by
  unfold destroyS; rw [if_neg (by rw [h]; simp), Int.toNat_natCast]; simp only [hs]
/-- a scope is stored whole -/
theorem scs_six {w : World} {b : Nat} {l : List Sc} (h : w.heap[b]? = some (.cells (l.flatMap scCells).toArray 72 (0, 0))) {k : Nat} {s : Sc} (hs : l[k]? = some s) (t : Sc) :
    ((((((w.setCell ⟨b, k * 6, none⟩ (.int .i64 t.c.st)).setCell ⟨b, k * 6 + 1, none⟩ (.int .i64 t.c.n)).setCell ⟨b, k * 6 + 2, none⟩ (.int .i64 t.c.p)).setCell ⟨b, k * 6 + 3, none⟩ (.int .i64 t.c.ep)).setCell ⟨b, k * 6 + 4, none⟩ (.int .i64 t.x.1)).setCell ⟨b, k * 6 + 5, none⟩ (.int .i64 t.x.2)).heap[b]? = some (.cells ((l.set k t).flatMap scCells).toArray 72 (0, 0)) := by
  have hk := (List.getElem?_eq_some_iff.1 hs).1
  have get : ∀ t : Sc, (l.set k t)[k]? = some t := fun t => by rw [List.getElem?_set]; simp [hk]
  have h4 := scs_four h hs t.c
  have h5 := scs_store h4 (get _) 4 (by omega) (.int .i64 t.x.1) ⟨t.c, (t.x.1, s.x.2)⟩ rfl
  rw [List.set_set] at h5
  have h6 := scs_store h5 (get _) 5 (by omega) (.int .i64 t.x.2) t rfl
  rw [List.set_set] at h6
  exact h6

set_option maxHeartbeats 1000000 in
theorem sdestroy_any (B p b g : Nat) (q : Option Nat) (f e : Int) (S : Sco) (i : Int) (w : World) (h : Scs B w p b g q f e S) :
    Calls Try.prog 15 #[.pointer (some ⟨p, 0, none⟩), .int .i64 i] w fun r w' => r = .returned (.int .i64 (destroyS f e i S).1) ∧ (∃ q', Scs B w' p b g q' f e (destroyS f e i S).2 ∧ Fresh w q q') ∧ Keep (ScT b g q) w w' := by
  have HH := Lib.hid h
  cases hin : inS i 1 S with
  | false =>
    rw [destroyS_out hin]
    have HA := Lib.hid (at_no B p b g q f e S i 1 _ h hin)
    clear h
    go_enter Try.func15, Try.ntmps15
    go_wp2_with (go_at_call 46; refine HA.out.mono ?_; rintro r w1 ⟨rfl, rfl⟩)
    go_ret
    exact ⟨rfl, ⟨q, HH.out, fun i hi => .inl hi⟩, Keep.refl _ _⟩
  | true =>
    obtain ⟨k, s, rfl, hk, hs⟩ := inS_yes hin (by omega)
    rw [destroyS_at hin hs]
    have HA := Lib.hid (at_yes B p b g q f e S k 1 _ h hin hk)
    obtain ⟨q0, q1, q2, q3, q4, q5⟩ := scs_cells h.row hs
    have hb := h.lt.2.1
    have Hs := Lib.hid hs
    clear h hs hin
    by_cases h0 : s.c.st = 0
    · rw [if_pos h0]
      rw [h0] at q0
      clear h0
      go_enter Try.func15, Try.ntmps15
      go_wp2_with (go_at_call 46; refine HA.out.mono ?_; rintro r w1 ⟨rfl, rfl⟩)
      go_ret
      exact ⟨rfl, ⟨q, HH.out, fun i hi => .inl hi⟩, Keep.refl _ _⟩
    · rw [if_neg h0]
      have e0 : (s.c.st == 0) = false := by simpa using h0
      by_cases h1 : s.c.st = 1
      · rw [if_pos h1]
        rw [h1] at q0
        clear h0 e0 h1
        have hso := HH.out.ok s (List.mem_of_getElem? Hs.out)
        obtain ⟨r1, r2, _⟩ := hso.r
        have x0 := hso.x0
        have x1 := hso.x1
        clear hso
        obtain ⟨d0, d1, _, _⟩ := box2 HH.out.hd
        have n3 := HH.out.ne3
        have n2 := HH.out.ne2
        have he : bits .and .i64 (s.c.ep + 1) 16777215 = (s.c.ep + 1) % 16777216 := mask24 _
        have He := Lib.hid he
        clear he
        go_enter Try.func15, Try.ntmps15
        go_wp2_with (go_at_call 46; refine HA.out.mono ?_; rintro r w1 ⟨rfl, rfl⟩)
        have HHd := Lib.hid (HH.out.below (Below.drew (Below.refl w1.heap.size w1)))
        go_region_held3 (fun W => W.cell? ⟨p, 1, none⟩ = some (.pointer (some ⟨g, 0, none⟩)) ∧ W.cell? ⟨b, k * 6 + 4, none⟩ = some (.int .i64 s.x.1) ∧ W.cell? ⟨b, k * 6 + 5, none⟩ = some (.int .i64 s.x.2)) (refine And.intro ?_ (And.intro ?_ ?_) <;> assumption) ((go_at_call 47; refine (give_any B g f e S.F q s.x.1 s.x.2 _ HHd.out.gr ⟨by omega, by omega⟩).mono ?_; rintro r w7 ⟨rfl, ⟨q7, hG, hq7⟩, hk⟩; have d1' := hk.cell d1 (by simpa using n2.symm); have q4' := hk.cell q4 (by simpa using n3.symm); have q5' := hk.cell q5 (by simpa using n3.symm); have H7 := Lib.hid (HHd.out.turned (keep_more q hk) _ hG hq7); have HQ7 := Lib.hid hq7; have K7 := Lib.hid (keep_sct (b := b) (keep_more q hk)); have q3' := hk.cell q3 (by simpa using n3.symm); clear hG hq7 hk; have hb7 := lt_of_heap H7.out.row; have f0 := row_frozen H7.out.row (k * 6); have f1 := row_frozen H7.out.row (k * 6 + 1); have f2 := row_frozen H7.out.row (k * 6 + 2); have f3 := row_frozen H7.out.row (k * 6 + 3); have f4 := row_frozen H7.out.row (k * 6 + 4); have f5 := row_frozen H7.out.row (k * 6 + 5); obtain ⟨z0, z1, z2, _, _, _⟩ := scs_cells H7.out.row Hs.out))
        go_wp2
        go_ret
        rw [He.out]
        have six : ∀ {T : List Nat} {w0 : World}, b ∈ T → Keep T w0 w7 → Keep T w0 ((((((w7.setCell ⟨b, k * 6, none⟩ (.int .i64 0)).setCell ⟨b, k * 6 + 1, none⟩ (.int .i64 0)).setCell ⟨b, k * 6 + 2, none⟩ (.int .i64 (-1))).setCell ⟨b, k * 6 + 3, none⟩ (.int .i64 ((s.c.ep + 1) % 16777216))).setCell ⟨b, k * 6 + 4, none⟩ (.int .i64 0)).setCell ⟨b, k * 6 + 5, none⟩ (.int .i64 0)) :=
          fun hT k0 => ((k0.four (b := b) hT _ _ _ _ _ _ _ _).setCell (.inl hT) _).setCell (.inl hT) _
        have K := six (by simp) (Keep.refl [b] w7)
        refine ⟨rfl, ⟨q7, H7.out.other K _ (List.length_set ..) (scs_six H7.out.row Hs.out ⟨⟨0, 0, -1, (s.c.ep + 1) % 16777216⟩, (0, 0)⟩) (fun t ht => (mem_set_or ht).elim (fun e => ?_) (HH.out.ok t)), HQ7.out⟩, six (by simp) (((Keep.refl _ w1).drew).trans K7.out)⟩
        subst e
        exact ⟨⟨Int.emod_nonneg _ (by decide), by show (s.c.ep + 1) % 16777216 ≤ 16777215; omega, .inl ⟨.inl rfl, rfl, rfl⟩⟩, Int.le_refl _, show (0 : Int) ≤ 131072 by decide⟩
      · rw [if_neg h1]
        have e1 : (s.c.st != 1) = true := by simpa using h1
        clear h0 h1
        go_enter Try.func15, Try.ntmps15
        go_wp2_with (go_at_call 46; refine HA.out.mono ?_; rintro r w1 ⟨rfl, rfl⟩)
        go_ret
        exact ⟨rfl, ⟨q, HH.out, fun i hi => .inl hi⟩, Keep.refl _ _⟩

end Go.Proofs.Ytcicpfhbpcdjcaa
