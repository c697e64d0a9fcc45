/- Layer 16: what slots.Step makes of a load or store on its way. (Printed by gen_slj.py.) -/
import Derived.Test.YtnimaajnlkbdaaaGreatMP
import Derived.Test.YtnimaajnlkbdaaaGreatSlStep
import Derived.Test.YtnimaajnlkbdaaaGreatMS
namespace Go.Proofs.YtnimaajnlkbdaaaGreat
open Go.RowKit
set_option linter.unusedVariables false
set_option linter.unusedSimpArgs false

theorem plan16_ok : PlanOk 4 2 128 512 := by constructor <;> decide
theorem head16 (i : Nat) (hi : i < 9) : HeadOk 4 2 0 ((i / 3 : Nat) : Int) (5 * ((i / 3 : Nat) : Int)) := ⟨by decide, by decide, by decide, by omega, by omega⟩
theorem checkR_ok (l : List Ent) (v : Nat) (hv : v < 11) : (checkR 4 l (hC v)).2 = if reach l (sC v) = true then 0 else 20 := by
 have hs := sC_lt v hv
 unfold checkR
 rw [hC_unpack v hv]
 rw [if_neg (fun h => h rfl), if_neg (by show ¬ ((4 : Int) ≤ (sC v : Int)); omega)]
 show (if reach l (sC v : Int) = false then (((0, 0, 0), 20) : Rf × Int) else _).2 = _
 cases hr : reach l (sC v : Int) with
 | false => rfl
 | true => rfl
theorem kC_ok {j : Nat} (hj : j < 9) : kC j = oK j ∧ sC j = j / 3 ∧ eC j = 5 * ((j / 3 : Nat) : Int) := by
 unfold kC sC eC
 rw [if_pos hj, if_pos hj, if_pos hj]
 exact ⟨rfl, rfl, rfl⟩
section
variable (C : Nat → Ctl) (l : List Ent) (j v p b : Nat) (ws : List Int) (r : Rn) (w : World)
abbrev SlPost (e : Ending) (w' : World) : Prop := e = .returned (.tuple #[(slR C l ws j v r).v, .int .i64 0]) ∧ Arn w' p b (slW ws r) ∧ Keep [b] w w'
theorem sl_quiet (hA : Arn w p b ws) (hn : r.pc ≠ 10 ∧ r.pc ≠ 12) (Z : Rn) (hz : Z = slR C l ws j v r) {e : Ending} {w' : World} (h : e = .returned (.tuple #[Z.v, .int .i64 0]) ∧ Below w.heap.size w w') : SlPost C l j v p b ws r w e w' := by
 obtain ⟨he, hb⟩ := h
 refine ⟨by rw [he, hz], ?_, keep_below hb [b]⟩
 unfold slW
 rw [if_neg (by omega)]
 exact hA.below hb
theorem slJ5 (hA : Arn w p b ws) (L : Lw C ws) (I : SlIn C l j v r) (h : r.pc = 5) : Calls Tryz.prog 14 #[.agg #[.int .i64 4, .int .i64 2, .int .i64 128, .int .i64 512], .pointer (some ⟨p, 0, none⟩), r.v] w (SlPost C l j v p b ws r w) := by
 have hp := I.pcs
 have hx : j < 11 := by omega
 have hs := sC_lt j hx
 refine (slStep5_any p b 4 2 128 512 ws r w hA I.done h { r with pc := 6 } (if (C (sC j)).ep = eC j then 0 else 19) I.said (fun g w' hg hb hu =>
  useFresh_any g p b 4 2 128 512 ws (8 * sC j) (C (sC j)) r r.hand 6 (sC j : Int) (eC j) (8 * (kC j : Int)) w' plan16_ok hu (hA.below hb) (L.right _ (by omega)) (L.ctl _ (by omega)) (by omega) (by omega) (by rw [I.hand]; exact hC_unpack j hx) (by rw [I.hand]; have := hC_bd j (by omega); omega))).mono (fun e w' hh => sl_quiet C l j v p b ws r w hA (by omega) _ ?_ hh)
 unfold slR
 rw [if_pos h]
 unfold freshR
 by_cases he : (C (sC j)).ep = eC j
 ·rw [if_pos he, if_pos he, if_pos rfl]
 ·rw [if_neg he, if_neg he, if_neg (by decide)]
theorem slJ7 (hA : Arn w p b ws) (L : Lw C ws) (I : SlIn C l j v r) (h : r.pc = 7) : Calls Tryz.prog 14 #[.agg #[.int .i64 4, .int .i64 2, .int .i64 128, .int .i64 512], .pointer (some ⟨p, 0, none⟩), r.v] w (SlPost C l j v p b ws r w) := by
 have hp := I.pcs
 have hx : v < 11 := by omega
 have hs := sC_lt v hx
 refine (slStep7_any p b 4 2 128 512 ws r w hA I.done h { r with pc := 8 } (if (C (sC v)).ep = eC v then 0 else 19) I.said (fun g w' hg hb hu =>
  useFresh_any g p b 4 2 128 512 ws (8 * sC v) (C (sC v)) r r.val 8 (sC v : Int) (eC v) (8 * (kC v : Int)) w' plan16_ok hu (hA.below hb) (L.right _ (by omega)) (L.ctl _ (by omega)) (by omega) (by omega) (by rw [I.val]; exact hC_unpack v hx) (by rw [I.val]; have := hC_bd v (by omega); omega))).mono (fun e w' hh => sl_quiet C l j v p b ws r w hA (by omega) _ ?_ hh)
 unfold slR
 have n5 : ¬ r.pc = 5 := by omega
 have n6 : ¬ r.pc = 6 := by omega
 rw [if_neg n5, if_neg n6, if_pos h]
 unfold freshR
 by_cases he : (C (sC v)).ep = eC v
 ·rw [if_pos he, if_pos he, if_pos rfl]
 ·rw [if_neg he, if_neg he, if_neg (by decide)]
theorem slJ6 (hA : Arn w p b ws) (L : Lw C ws) (I : SlIn C l j v r) (hl : l.length ≤ 1048576) (hn : r.chain.n = l.length) (hkc : l.length ≤ r.chain.c) (hE : Ents w r.chain.a l) (h : r.pc = 6) : Calls Tryz.prog 14 #[.agg #[.int .i64 4, .int .i64 2, .int .i64 128, .int .i64 512], .pointer (some ⟨p, 0, none⟩), r.v] w (SlPost C l j v p b ws r w) := by
 have hp := I.pcs
 have hj : j < 11 ∧ j ≠ 9 ∧ (r.c.op = 8 ∨ r.c.op = 9) := by omega
 have hU := hC_unpack j hj.1
 rw [← I.hand] at hU
 have hB := hC_bd j I.lt.1
 rw [← I.hand] at hB
 have hV := hC_bd v I.lt.2
 have hsl : ∀ Z, Z = handR l j v r → Z = slR C l ws j v r := fun Z hz => by rw [hz]; unfold slR; rw [if_neg (show ¬ r.pc = 5 by omega), if_pos h]
 by_cases h10 : j = 10
 ·obtain ⟨y, hy, _⟩ := L.sl 4 0 (by decide) (by decide)
  have hk : kC j = oK 4 + 1 := by rw [h10]; rfl
  have h4 : ws[kC j]? = some 1281 := by rw [hk]; exact L.h2 4 (by decide)
  refine (slStep6_any p b 4 2 128 512 ws r w hA I.done h r 18 I.said (fun g w' hg hb hu =>
   useHand_bad g p b 4 2 128 512 ws (kC j) r (sC j : Int) (eC j) (8 * (kC j : Int)) w' y h4 (by rw [hk]; exact hy) hu (hA.below hb) rfl hU (by omega))).mono (fun e w' hh => sl_quiet C l j v p b ws r w hA (by omega) _ (hsl _ ?_) hh)
  unfold handR
  rw [if_pos h10, if_neg (by decide)]
 obtain ⟨hk, hs, he⟩ := kC_ok (j := j) (by omega)
 have e1 : ws[kC j]? = some (head1 4 2 0) := by rw [hk]; exact L.h1 j (by omega)
 have e2 : ws[kC j + 1]? = some (head2 (sC j : Int) (eC j)) := by rw [hk, hs, he]; exact L.h2 j (by omega)
 have hH : HeadOk 4 2 0 (sC j : Int) (eC j) := by rw [hs, he]; exact head16 j (by omega)
 cases hB2 : inB r.c.b 0 1 with
 | false =>
  refine (slStep6_any p b 4 2 128 512 ws r w hA I.done h r 21 I.said (fun g w' hg hb hu =>
   useHand_slot g p b 4 2 128 512 ws (kC j) r (sC j : Int) (eC j) (8 * (kC j : Int)) w' 4 2 0 hH e1 e2 hB2 hu (hA.below hb) rfl hU (by omega))).mono (fun e w' hh => sl_quiet C l j v p b ws r w hA (by omega) _ (hsl _ ?_) hh)
  unfold handR
  rw [if_neg h10, if_pos hB2, if_neg (by decide)]
 | true =>
  refine (slStep6_any p b 4 2 128 512 ws r w hA I.done h { r with at_ := 8 * (kC j : Int) + 16 + 8 * r.c.b, pc := if r.c.op = 8 then 9 else if r.val = 0 then 10 else 7 } (if r.c.op = 8 then 0 else if r.val = 0 then 0 else (checkR 4 l r.val).2) I.said (fun g w' hg hb hu =>
   useHand_ok g p b 4 2 128 512 ws (kC j) r (sC j : Int) (eC j) (8 * (kC j : Int)) w' 4 2 0 hH e1 e2 hB2 l hl hn (Ents.below hE hb) (fun a h1 h2 e3 => by
    obtain ⟨bb, off, q1, q2, _⟩ := hE.at_ h1
    rw [h2] at q1
    injection q1 with q1
    rw [q1] at e3
    simp at e3
    omega) (by rw [I.val]; omega) hu (hA.below hb) rfl hU (by omega))).mono (fun e w' hh => sl_quiet C l j v p b ws r w hA (by omega) _ (hsl _ ?_) hh)
  unfold handR
  have hB3 : ¬ inB r.c.b 0 1 = false := by rw [hB2]; decide
  rw [if_neg h10, if_neg hB3]
  by_cases h8 : r.c.op = 8
  ·simp only [if_pos h8]; rfl
  by_cases hv : v = 11
  ·have h0 : r.val = 0 := by rw [I.val, hv]; decide
   simp only [if_neg h8, if_pos h0, if_pos hv]; rfl
  have h0 : ¬ r.val = 0 := fun e => hv (hV.2.2 (by rw [← I.val]; exact e))
  have hck : (checkR 4 l r.val).2 = if reach l (sC v) = true then 0 else 20 := by rw [I.val]; exact checkR_ok l v (by have := I.lt; omega)
  simp only [if_neg h8, if_neg h0, if_neg hv]
  rw [hck]
  cases hr : reach l (sC v : Int) with
  | true => rfl
  | false => rfl
theorem slJ8 (hA : Arn w p b ws) (L : Lw C ws) (I : SlIn C l j v r) (hl : l.length ≤ 1048576) (hn : r.chain.n = l.length) (hkc : l.length ≤ r.chain.c) (hE : Ents w r.chain.a l) (h : r.pc = 8) : Calls Tryz.prog 14 #[.agg #[.int .i64 4, .int .i64 2, .int .i64 128, .int .i64 512], .pointer (some ⟨p, 0, none⟩), r.v] w (SlPost C l j v p b ws r w) := by
 have hp := I.pcs
 have hj : v < 11 ∧ v ≠ 9 ∧ (r.c.op = 9 ∧ j < 9 ∨ r.c.op = 11) := by omega
 have hU := hC_unpack v hj.1
 rw [← I.val] at hU
 have hB := hC_bd v I.lt.2
 rw [← I.val] at hB
 have hJ : j < 11 → unpackR r.hand = (((sC j : Int), eC j, 8 * (kC j : Int)), 0) := fun h => by rw [I.hand]; exact hC_unpack j h
 have hJ2 := hC_bd j I.lt.1
 rw [← I.hand] at hJ2
 have hsl : ∀ Z, Z = valueR l j v r → Z = slR C l ws j v r := fun Z hz => by rw [hz]; unfold slR; rw [if_neg (show ¬ r.pc = 5 by omega), if_neg (show ¬ r.pc = 6 by omega), if_neg (show ¬ r.pc = 7 by omega), if_pos h]
 by_cases h10 : v = 10
 ·obtain ⟨y, hy, _⟩ := L.sl 4 0 (by decide) (by decide)
  have hk : kC v = oK 4 + 1 := by rw [h10]; rfl
  have h4 : ws[kC v]? = some 1281 := by rw [hk]; exact L.h2 4 (by decide)
  have hz : ∀ x : Int, (if (18 : Int) = 0 then ({ r with pc := x } : Rn) else toldR { ({ r with pc := x } : Rn) with pc := r.pc } 18 0 noS) = valueR l j v r := fun x => by
   unfold valueR
   rw [if_pos h10, if_neg (by decide)]
  rcases hj.2.2 with ⟨ho, hj9⟩ | ho
  ·exact (slStep8_any p b 4 2 128 512 ws r w hA I.done h { r with pc := 10 } 18 I.said (fun g w' hg hb hu =>
    useValue_bad_store g p b 4 2 128 512 ws (kC v) r (sC v : Int) (eC v) (8 * (kC v : Int)) w' y h4 (by rw [hk]; exact hy) ho (sC j : Int) (eC j) (8 * (kC j : Int)) (hJ (by omega)) (by omega) hu (hA.below hb) rfl hU (by omega))).mono (fun e w' hh => sl_quiet C l j v p b ws r w hA (by omega) _ (hsl _ (hz 10)) hh)
  ·exact (slStep8_any p b 4 2 128 512 ws r w hA I.done h { r with pc := 12 } 18 I.said (fun g w' hg hb hu =>
    useValue_bad_gate g p b 4 2 128 512 ws (kC v) r (sC v : Int) (eC v) (8 * (kC v : Int)) w' y h4 (by rw [hk]; exact hy) ho hu (hA.below hb) rfl hU (by omega))).mono (fun e w' hh => sl_quiet C l j v p b ws r w hA (by omega) _ (hsl _ (hz 12)) hh)
 obtain ⟨hk, hs, he⟩ := kC_ok (j := v) (by omega)
 have e1 : ws[kC v]? = some (head1 4 2 0) := by rw [hk]; exact L.h1 v (by omega)
 have e2 : ws[kC v + 1]? = some (head2 (sC v : Int) (eC v)) := by rw [hk, hs, he]; exact L.h2 v (by omega)
 have hH : HeadOk 4 2 0 (sC v : Int) (eC v) := by rw [hs, he]; exact head16 v (by omega)
 rcases hj.2.2 with ⟨ho, hj9⟩ | ho
 ·refine (slStep8_any p b 4 2 128 512 ws r w hA I.done h { r with pc := 10 } (if above l (sC v) (sC j) = true then 0 else 22) I.said (fun g w' hg hb hu =>
   useValue_ok_store g p b 4 2 128 512 ws (kC v) r (sC v : Int) (eC v) (8 * (kC v : Int)) w' 4 2 0 hH e1 e2 l hl hkc hn (Ents.below hE hb) ho (sC j : Int) (eC j) (8 * (kC j : Int)) (hJ (by omega)) (by omega) hu (hA.below hb) rfl hU (by omega))).mono (fun e w' hh => sl_quiet C l j v p b ws r w hA (by omega) _ (hsl _ ?_) hh)
  unfold valueR
  rw [if_neg h10, if_pos ho, if_pos ho]
  cases ha : above l (sC v) (sC j) with
  | true => rw [if_pos rfl, if_pos rfl, if_pos rfl]
  | false => rw [if_neg (by decide), if_neg (by decide), if_neg (by decide)]
 ·refine (slStep8_any p b 4 2 128 512 ws r w hA I.done h { r with pc := 12 } (if above l (sC v) r.c.a = true then 0 else 22) I.said (fun g w' hg hb hu =>
   useValue_ok_gate g p b 4 2 128 512 ws (kC v) r (sC v : Int) (eC v) (8 * (kC v : Int)) w' 4 2 0 hH e1 e2 l hl hkc hn (Ents.below hE hb) ho hu (hA.below hb) rfl hU (by omega))).mono (fun e w' hh => sl_quiet C l j v p b ws r w hA (by omega) _ (hsl _ ?_) hh)
  have ho9 : ¬ r.c.op = 9 := by omega
  unfold valueR
  rw [if_neg h10, if_neg ho9, if_neg ho9]
  cases ha : above l (sC v) r.c.a with
  | true => rw [if_pos rfl, if_pos rfl, if_pos rfl]
  | false => rw [if_neg (by decide), if_neg (by decide), if_neg (by decide)]
theorem slJ9 (hA : Arn w p b ws) (L : Lw C ws) (I : SlIn C l j v r) (h : 9 ≤ r.pc) : Calls Tryz.prog 14 #[.agg #[.int .i64 4, .int .i64 2, .int .i64 128, .int .i64 512], .pointer (some ⟨p, 0, none⟩), r.v] w (SlPost C l j v p b ws r w) := by
 have hp := I.pc
 have hc := I.cell h
 obtain ⟨x, hx, x0, x1⟩ := L.at_ hc
 have hv : 0 ≤ r.val ∧ r.val < 18446744073709551616 := by rw [I.val]; have := hC_bd v I.lt.2; omega
 have gb : ∀ {g : Nat} {w' : World}, w.heap.size ≤ g → g ≠ b := fun h => by have := lt_of_heap hA.row; omega
 have hgo : ∀ (n : Int) (ws' : List Int), ws' = slW ws r → toldR r 0 n noS = slR C l ws j v r → (∀ (g : Nat) (w' : World), w.heap.size ≤ g → Below w.heap.size w w' → Use w' g p 4 2 128 512 r 0 → Calls Tryz.prog 36 #[.pointer (some ⟨g, 0, none⟩)] w' fun e w'' => e = .returned (.int .i64 n) ∧ Arn w'' p b ws' ∧ Use w'' g p 4 2 128 512 r 0 ∧ Keep [b] w' w'') → Calls Tryz.prog 14 #[.agg #[.int .i64 4, .int .i64 2, .int .i64 128, .int .i64 512], .pointer (some ⟨p, 0, none⟩), r.v] w (SlPost C l j v p b ws r w) := by
  intro n ws' hw hz hC
  refine (slLast_any p b 4 2 128 512 ws r w hA I.done (by omega) I.said n ws' hC).mono (fun e w' hh => ?_)
  obtain ⟨h1, h2, h3⟩ := hh
  exact ⟨by rw [h1, hz], by rw [← hw]; exact h2, h3⟩
 have hr : ¬ r.pc = 5 ∧ ¬ r.pc = 6 ∧ ¬ r.pc = 7 ∧ ¬ r.pc = 8 := by omega
 have hrd : (r.pc = 9 ∨ r.pc = 11) → toldR r 0 x noS = slR C l ws j v r := fun h9 => by
  unfold slR
  rw [if_neg hr.1, if_neg hr.2.1, if_neg hr.2.2.1, if_neg hr.2.2.2, if_pos h9, hx]
  rfl
 have hwr : (r.pc = 10 ∨ r.pc = 12) → toldR r 0 0 noS = slR C l ws j v r := fun h9 => by
  unfold slR
  rw [if_neg hr.1, if_neg hr.2.1, if_neg hr.2.2.1, if_neg hr.2.2.2, if_neg (by omega)]
 by_cases h9 : r.pc = 9
 ·refine hgo x ws (by unfold slW; rw [if_neg (by omega)]) (hrd (.inl h9)) (fun g w' hg hb hu => ?_)
  refine (useLast_load g p b 4 2 128 512 ws (lastK r) x r w' plan16_ok hu (hA.below hb) hx h9 (I.at_nat (.inl h9)).1 x1).mono (fun e w'' hh => ?_)
  exact ⟨hh.1, (hA.below hb).below hh.2, row_below hu hh.2, keep_below hh.2 [b]⟩
 by_cases h10 : r.pc = 10
 ·refine hgo 0 (ws.set (lastK r) r.val) (by unfold slW; rw [if_pos (.inl h10)]) (hwr (.inl h10)) (fun g w' hg hb hu => ?_)
  exact (useLast_store g p b 4 2 128 512 ws (lastK r) x r w' plan16_ok hu (hA.below hb) hx h10 (I.at_nat (.inr h10)).1 (gb (w' := w') hg) hv).mono (fun e w'' hh => hh)
 by_cases h11 : r.pc = 11
 ·obtain ⟨a1, a2, a3, _⟩ := I.pt_nat (.inl h11)
  refine hgo x ws (by unfold slW; rw [if_neg (by omega)]) (hrd (.inr h11)) (fun g w' hg hb hu => ?_)
  refine (useLast_portal g p b 4 2 128 512 ws (lastK r) x r w' plan16_ok hu (hA.below hb) hx h11 a3 (by omega) x1).mono (fun e w'' hh => ?_)
  exact ⟨hh.1, (hA.below hb).below hh.2, row_below hu hh.2, keep_below hh.2 [b]⟩
 ·have h12 : r.pc = 12 := by omega
  obtain ⟨a1, a2, a3, _⟩ := I.pt_nat (.inr h12)
  refine hgo 0 (ws.set (lastK r) r.val) (by unfold slW; rw [if_pos (.inr h12)]) (hwr (.inr h12)) (fun g w' hg hb hu => ?_)
  exact (useLast_gate g p b 4 2 128 512 ws (lastK r) x r w' plan16_ok hu (hA.below hb) hx h12 a3 (by omega) (gb (w' := w') hg) hv).mono (fun e w'' hh => hh)
theorem slStep_any (hA : Arn w p b ws) (L : Lw C ws) (I : SlIn C l j v r) (hl : l.length ≤ 1048576) (hn : r.chain.n = l.length) (hkc : l.length ≤ r.chain.c) (hE : Ents w r.chain.a l) : Calls Tryz.prog 14 #[.agg #[.int .i64 4, .int .i64 2, .int .i64 128, .int .i64 512], .pointer (some ⟨p, 0, none⟩), r.v] w (SlPost C l j v p b ws r w) := by
 have hp := I.pc
 by_cases h5 : r.pc = 5
 ·exact slJ5 C l j v p b ws r w hA L I h5
 by_cases h6 : r.pc = 6
 ·exact slJ6 C l j v p b ws r w hA L I hl hn hkc hE h6
 by_cases h7 : r.pc = 7
 ·exact slJ7 C l j v p b ws r w hA L I h7
 by_cases h8 : r.pc = 8
 ·exact slJ8 C l j v p b ws r w hA L I hl hn hkc hE h8
 ·exact slJ9 C l j v p b ws r w hA L I (by omega)
end
end Go.Proofs.YtnimaajnlkbdaaaGreat
