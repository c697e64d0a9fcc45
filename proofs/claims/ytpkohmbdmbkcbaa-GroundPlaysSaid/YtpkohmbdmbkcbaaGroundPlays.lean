/- The law GroundPlays's walk. -/
import Derived.Test.YtpkohmbdmbkcbaaGroundRefB
import Derived.Test.YtpkohmbdmbkcbaaGroundTwo
import Derived.Deep.RegionHeld3
namespace Go.Proofs.Ytpkohmbdmbkcbaa
open Go.RowKit

/-- the program's ground and the document's, beside each other -/
structure Both (B : Nat) (w : World) (f e : Int) (p p' q' : Nat) (q : Option Nat) (l : List Ext) (b : List Bool) : Prop where
  g : Gr B w p f e l q
  r : RG B w p' q' f b
  pp : p ≠ p'
  pq : p ≠ q'
  qp : q ≠ some p'
  qq : q ≠ some q'
section
variable {B p p' q' : Nat} {w w' : World} {f e : Int} {q : Option Nat} {l l' : List Ext} {b b' : List Bool}
theorem Both.below (h : Both B w f e p p' q' q l b) (hb : Below w.heap.size w w') : Both B w' f e p p' q' q l b := { h with g := h.g.below hb, r := h.r.below hb }
theorem Both.drewN (h : Both B w f e p p' q' q l b) (n : Nat) : Both B (w.drewN n) f e p p' q' q l b := h.below (below_drewN (Below.refl _ _) n)
theorem Both.carve (h : Both B w f e p p' q' q l b) (hg : Gr B w' p f e l' q) (k : Keep (p :: q.toList) w w') : Both B w' f e p p' q' q l' b :=
  { h with g := hg, r := h.r.kept k (by
      intro hm
      rcases List.mem_cons.1 hm with hm | hm
      · exact h.pp hm.symm
      · exact h.qp (by simpa using hm)) (by
      intro hm
      rcases List.mem_cons.1 hm with hm | hm
      · exact h.pq hm.symm
      · exact h.qq (by simpa using hm)) }
theorem Both.give {q1 : Option Nat} (h : Both B w f e p p' q' q l b) (hg : Gr B w' p f e l' q1) (hq : ∀ i, q1 = some i → q = some i ∨ w.heap.size ≤ i) (k : Keep [p] w w') : Both B w' f e p p' q' q1 l' b :=
  ⟨hg, h.r.kept k (by simp; exact fun e => h.pp e.symm) (by simp; exact fun e => h.pq e.symm), h.pp, h.pq, (fun he => by
    have := h.r.lt.1
    rcases hq _ he with h1 | h1
    · exact h.qp h1
    · omega), (fun he => by
    have := h.r.lt.2
    rcases hq _ he with h1 | h1
    · exact h.qq h1
    · omega)⟩
theorem Both.ref (h : Both B w f e p p' q' q l b) (hr : RG B w' p' q' f b') (k : Keep [q'] w w') : Both B w' f e p p' q' q l b' :=
  { h with r := hr, g := h.g.kept k (by simp; exact h.pq) (fun i hi hm => by
      simp at hm
      subst hm
      exact h.qq hi) }
theorem Both.under1 {W : World} (h : Both B w f e p p' q' q l b) (hb : Below W.heap.size W w) (hB : W.heap.size ≤ B) (k : Keep (p :: q.toList) w w') : Below W.heap.size W w' :=
  Keep.under hb k hb.size (fun i hi => Nat.le_trans hB (h.g.blocks i hi))
theorem Both.under2 {W : World} (h : Both B w f e p p' q' q l b) (hb : Below W.heap.size W w) (hB : W.heap.size ≤ B) (k : Keep [q'] w w') : Below W.heap.size W w' :=
  Keep.under hb k hb.size (fun i hi => by simp at hi; subst hi; exact Nat.le_trans hB h.r.lowq)
end

def PlayRel (w : World) (B0 : Nat) (f e : Int) (p p' q' n : Nat) (t : Value) (wr : World) : Prop :=
  ∃ (k : Nat) (lg : List Ext) (b : List Bool) (q : Option Nat), k ≤ n ∧ k ≤ 50 ∧ t = .int .i64 k ∧ Both B0 wr f e p p' q' q lg b ∧ Twin f e lg b ∧ Below w.heap.size w wr

set_option maxRecDepth 100000 in
set_option maxHeartbeats 4000000 in
theorem groundPlays_walk (a s : Int) (A : Option Addr) (c : Nat) (l : List GOp) (w : World) (ha : (Lit.int .u8 a).wf = true) (hs : (Lit.int .u8 s).wf = true)
    (_ : l.length ≤ c) (_ : c ≤ maxLen) (he : Cells w A (l.flatMap gopCells)) (hq : ∀ e ∈ l, GOpOk e) :
    Calls Try.prog 3 #[.int .u8 a, .int .u8 s, .slice A l.length c] w fun e w' => e = .returned (.bool true) ∧ Below w.heap.size w w' := by
  obtain ⟨a0, a1⟩ := wf_u8 ha
  obtain ⟨s0, s1⟩ := wf_u8 hs
  have Hq := Lib.hid hq
  have He := Lib.hid he
  clear ha hs hq he
  go_enter Try.func3, Try.ntmps3
  go_wp2_with fail
  refine (shown_any _).mono ?_
  rintro r w1 ⟨rfl, hb1⟩
  go_wp2_with fail
  obtain ⟨f, Hf⟩ : ∃ f, Hid (8 * (a % 61) = f) := ⟨_, rfl⟩
  obtain ⟨n, Hn⟩ : ∃ n, Hid (8 * (s % 61) = n) := ⟨_, rfl⟩
  rw [Hf.out, Hn.out]
  have f0 : 0 ≤ f := by rw [← Hf.out]; omega
  have f1 : f ≤ 480 := by rw [← Hf.out]; omega
  have f8 : f % 8 = 0 := by rw [← Hf.out]; omega
  have n0 : 0 ≤ n := by rw [← Hn.out]; omega
  have n1 : n ≤ 480 := by rw [← Hn.out]; omega
  have n8 : n % 8 = 0 := by rw [← Hn.out]; omega
  obtain ⟨m, hm⟩ : ∃ m : Nat, n = 8 * (m : Int) := ⟨(n / 8).toNat, by omega⟩
  have Hm := Lib.hid hm
  have Hf8 := Lib.hid f8
  have Hmay := Lib.hid (show newMay f n = true by unfold newMay inB; simp only [Bool.and_eq_true, decide_eq_true_eq]; omega)
  clear f8 n8 hm
  refine (new_good f n _ Hmay.out).mono ?_
  rintro r w2 ⟨p1, q1, rfl, hG1, hb2⟩
  have HG1 := Lib.hid hG1
  have B2 := Lib.hid (below_only hb1 hb2)
  have z1 := hb1.size
  have z2 := hb2.size
  clear hb1 hb2 hG1
  go_wp2_with fail
  refine (rnew_any f n m _ f0 Hm.out (by omega)).mono ?_
  rintro r w3 ⟨p', q', rfl, hR, hb3⟩
  have hG3 := HG1.out.below hb3
  have hl1 := HG1.out.lt
  have hW : w1.heap.size ≤ w2.heap.size := z2
  have HBo := Lib.hid (show Both w1.heap.size w3 f (f + n) p1 p' q' q1 (oneExt f n) (List.replicate m true) from
    ⟨hG3, { hR with low := Nat.le_trans hW hR.low, lowq := Nat.le_trans hW hR.lowq }, by have := hR.low; omega, by have := hR.lowq; omega,
      fun h => by have := (hl1.2 _ h).1; have := hR.low; omega, fun h => by have := (hl1.2 _ h).1; have := hR.lowq; omega⟩)
  have HTw := Lib.hid (Twin.new (n := n) (m := m) Hf8.out Hm.out)
  have B3 := Lib.hid (below_only B2.out hb3)
  clear hR hb3 hG3 hl1 HG1 B2
  go_wp2
  go_loopw [13] (fun t wr => PlayRel w w1.heap.size f (f + n) p1 p' q' l.length t wr) (fun t _ => l.length - (intOf t).toNat)
  case atStart => exact ⟨0, _, _, _, Nat.zero_le _, by omega, rfl, HBo.out, HTw.out, B3.out⟩
  case round =>
    obtain ⟨k, lg, b, q, hk, hk50, rfl, hBo, hTw, hB⟩ := hrel
    have HBk := Lib.hid hBo
    have HTk := Lib.hid hTw
    have HB := Lib.hid hB
    have hwr := hB.size
    clear hBo hTw
    by_cases hgo : k < l.length ∧ k < 50
    · obtain ⟨hlt, hlt50⟩ := hgo
      obtain ⟨bA, off, rfl, hbl, hcl⟩ := gops_at He.out (by omega)
      obtain ⟨x, hx⟩ : ∃ x, l[k]? = some x := ⟨_, List.getElem?_eq_getElem hlt⟩
      obtain ⟨c0, c1, c2⟩ := hcl k x hx
      obtain ⟨⟨o0, o1⟩, ⟨o2, o3⟩, ⟨o4, o5⟩⟩ := Hq.out x (List.mem_of_getElem? hx)
      have cx0 := old_cell hB c0
      have cx1 := old_cell hB c1
      have cx2 := old_cell hB c2
      obtain ⟨xk, xa, xn⟩ := x
      simp only at cx0 cx1 cx2 o0 o1 o2 o3 o4 o5
      have R5 := Lib.hid (row_new wr #[.int .u8 xk, .int .i64 xa, .int .i64 xn] 31)
      have HB5 := Lib.hid (HBk.out.below (show Below wr.heap.size wr (wr.alloc (.cells #[.int .u8 xk, .int .i64 xa, .int .i64 xn] 31)) by go_grown))
      have B5 := Lib.hid (below_only HB.out (show Below wr.heap.size wr (wr.alloc (.cells #[.int .u8 xk, .int .i64 xa, .int .i64 xn] 31)) by go_grown))
      have hbp : wr.heap.size ≠ p1 ∧ wr.heap.size ≠ p' ∧ wr.heap.size ≠ q' ∧ q ≠ some wr.heap.size := by
        have := HBk.out.g.lt
        have := HBk.out.r.lt
        exact ⟨by omega, by omega, by omega, fun h => by have := (HBk.out.g.lt.2 _ h).1; omega⟩
      clear hcl hx hB c0 c1 c2
      by_cases h2 : xk % 3 = 2
      · have h2' : ((xk % 3 : Int) == 2) = true := by rw [h2]; rfl
        clear h2
        go_wp2_with fail
        have hR5 := R5.out
        obtain ⟨x0, x1, x2, -, -, -⟩ := box3 hR5
        have zb := lt_of_heap hR5
        generalize wr.alloc (.cells #[.int .u8 xk, .int .i64 xa, .int .i64 xn] 31) = w5 at *
        obtain ⟨rc, HR1⟩ : ∃ rc, Hid ((giveF f (f + n) xa xn lg).1 = rc) := ⟨_, rfl⟩
        obtain ⟨L, HR2⟩ : ∃ L, Hid ((giveF f (f + n) xa xn lg).2 = L) := ⟨_, rfl⟩
        have HBd := Lib.hid (HB5.out.below (Below.drew (Below.refl w5.heap.size w5)))
        have Bd := Lib.hid (B5.out.drew)
        clear hR5 cx0 cx1 cx2 x0
        go_region_held3 (fun W => W.cell? ⟨wr.heap.size, 1, none⟩ = some (.int .i64 xa) ∧ W.cell? ⟨wr.heap.size, 2, none⟩ = some (.int .i64 xn)) (refine And.intro ?_ ?_ <;> assumption) (first | (go_at_call 12; refine (give_any _ p1 f (f + n) lg q xa xn _ HBd.out.g ⟨o2, o3⟩).mono ?_; rintro r w7 ⟨rfl, ⟨q7, hG, hq7⟩, hk⟩; rw [HR1.out]; rw [HR2.out] at hG; have x1' := hk.cell x1 (by simp; omega); have x2' := hk.cell x2 (by simp; omega); have HB7 := Lib.hid (HBd.out.give hG hq7 hk); have B7 := Lib.hid (HBd.out.under1 Bd.out (by omega) (keep_more q hk)); clear hG hq7 hk) | (go_at_call 13; refine (rgive_any _ p' q' f (f + n) lg b xa xn _ HB7.out.r HTk.out ⟨o2, o3⟩).mono ?_; rintro r w8 ⟨rfl, ⟨b8, hl8, hR8, hT8⟩, hk⟩; rw [HR1.out]; rw [HR2.out] at hT8; have HB8 := Lib.hid (HB7.out.ref hR8 hk); have B8 := Lib.hid (HB7.out.under2 B7.out (by omega) hk); have x1'' := hk.cell x1' (by simp; omega); have x2'' := hk.cell x2' (by simp; omega); have HT8 := Lib.hid hT8; clear hR8 hT8 hk))
        have hne : ((rc : Int) != rc) = false := by simp
        go_wp2_with fail
        refine (free_any _ p1 f (f + n) L q7 _ HB8.out.g).mono ?_
        rintro r w9 ⟨v, rfl, A9, c9, rfl, hc9, hcs9, _, hb⟩
        have hL := HB8.out.g.size
        have HB9 := Lib.hid (HB8.out.below hb)
        have B9 := Lib.hid (below_only B8.out hb)
        have Hc9 := Lib.hid hcs9
        clear hb hcs9
        go_wp2_with fail
        refine (extents_any _ p' q' f b8 _ HB9.out.r Hf8.out).mono ?_
        rintro r w10 ⟨v, rfl, A10, c10, rfl, hc10, hcs10, _, hb⟩
        rw [runs_all Hf8.out HT8.out.len HT8.out.can HT8.out.cov] at hcs10 ⊢
        have HB10 := Lib.hid (HB9.out.below hb)
        have B10 := Lib.hid (below_only B9.out hb)
        have Hc10 := Lib.hid hcs10
        have Hc9' := Lib.hid (Cells.below Hc9.out hb)
        clear hb hcs10
        go_wp2_with fail
        refine (same_any A9 A10 c9 c10 L L _ (by omega) (by omega) Hc9'.out Hc10.out).mono ?_
        rintro r w11 ⟨rfl, hb⟩
        have hs : decide (L = L) = true := decide_eq_true rfl
        rw [hs]
        have HB11 := Lib.hid (HB10.out.below hb)
        have B11 := Lib.hid (below_only B10.out hb)
        clear hb
        go_wp2
        go_roundw
        case rel => exact ⟨k + 1, L, b8, q7, by omega, by omega, by go_num, HB11.out, HT8.out, B11.out⟩
        case measure => simp [intOf]; omega

      · have h2' : ((xk % 3 : Int) == 2) = false := by rw [beq_eq_false_iff_ne]; exact h2
        clear h2
        go_wp2_with fail
        have hR5 := R5.out
        obtain ⟨x0, x1, x2, -, -, -⟩ := box3 hR5
        have zb := lt_of_heap hR5
        generalize wr.alloc (.cells #[.int .u8 xk, .int .i64 xa, .int .i64 xn] 31) = w5 at *
        obtain ⟨rc, HR1⟩ : ∃ rc, Hid ((carveF xn lg).1 = rc) := ⟨_, rfl⟩
        obtain ⟨ok, HR3⟩ : ∃ ok, Hid ((carveF xn lg).2.1 = ok) := ⟨_, rfl⟩
        obtain ⟨L, HR2⟩ : ∃ L, Hid ((carveF xn lg).2.2 = L) := ⟨_, rfl⟩
        clear hR5 cx0 cx1 cx2 x0 x1
        refine (carve_any _ p1 f (f + n) lg q xn _ HB5.out.g).mono ?_
        rintro r w7 ⟨rfl, hG, hk⟩
        rw [HR1.out, HR3.out]
        rw [HR2.out] at hG
        have x2' := hk.cell x2 (by
          intro hm
          rcases List.mem_cons.1 hm with hm | hm
          · exact hbp.1 hm
          · exact hbp.2.2.2 (by simpa using hm))
        have HB7 := Lib.hid (HB5.out.carve hG hk)
        have B7 := Lib.hid (HB5.out.under1 B5.out (by omega) hk)
        clear hG hk x2
        go_wp2_with fail
        refine (rcarve_any _ p' q' f (f + n) lg b xn _ HB7.out.r HTk.out).mono ?_
        rintro r w8 ⟨rfl, ⟨b8, hl8, hR8, hT8⟩, hk⟩
        rw [HR1.out, HR3.out]
        rw [HR2.out] at hT8
        have HB8 := Lib.hid (HB7.out.ref hR8 hk)
        have B8 := Lib.hid (HB7.out.under2 B7.out (by omega) hk)
        have HT8 := Lib.hid hT8
        clear hR8 hT8 hk x2'
        have hne : ((rc : Int) != rc) = false := by simp
        have hne' : (ok != ok) = false := by simp
        go_wp2_with fail
        refine (free_any _ p1 f (f + n) L q _ HB8.out.g).mono ?_
        rintro r w9 ⟨v, rfl, A9, c9, rfl, hc9, hcs9, _, hb⟩
        have hL := HB8.out.g.size
        have HB9 := Lib.hid (HB8.out.below hb)
        have B9 := Lib.hid (below_only B8.out hb)
        have Hc9 := Lib.hid hcs9
        clear hb hcs9
        go_wp2_with fail
        refine (extents_any _ p' q' f b8 _ HB9.out.r Hf8.out).mono ?_
        rintro r w10 ⟨v, rfl, A10, c10, rfl, hc10, hcs10, _, hb⟩
        rw [runs_all Hf8.out HT8.out.len HT8.out.can HT8.out.cov] at hcs10 ⊢
        have HB10 := Lib.hid (HB9.out.below hb)
        have B10 := Lib.hid (below_only B9.out hb)
        have Hc10 := Lib.hid hcs10
        have Hc9' := Lib.hid (Cells.below Hc9.out hb)
        clear hb hcs10
        go_wp2_with fail
        refine (same_any A9 A10 c9 c10 L L _ (by omega) (by omega) Hc9'.out Hc10.out).mono ?_
        rintro r w11 ⟨rfl, hb⟩
        have hs : decide (L = L) = true := decide_eq_true rfl
        rw [hs]
        have HB11 := Lib.hid (HB10.out.below hb)
        have B11 := Lib.hid (below_only B10.out hb)
        clear hb
        go_wp2
        go_roundw
        case rel => exact ⟨k + 1, L, b8, q, by omega, by omega, by go_num, HB11.out, HT8.out, B11.out⟩
        case measure => simp [intOf]; omega

    · have hex : ¬ k < l.length ∨ (k < l.length ∧ ¬ k < 50) := by omega
      clear hB hgo
      rcases hex with h1 | ⟨h1, h2⟩
      all_goals
        go_wp2
        go_ret
        exact ⟨rfl, HB.out⟩

end Go.Proofs.Ytpkohmbdmbkcbaa
