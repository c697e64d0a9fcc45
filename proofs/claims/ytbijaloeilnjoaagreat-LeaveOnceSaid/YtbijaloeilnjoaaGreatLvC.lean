/- Layer 18: the walks of slices.Clone, slices.Grow and slices.Concat at ints. -/
import Derived.Test.YtbijaloeilnjoaaGreatLF
import Derived.Lib.AppendZerosOnto
namespace Go.Proofs.YtbijaloeilnjoaaGreat
open Go.RowKit
set_option linter.unusedVariables false
set_option linter.unusedSimpArgs false

theorem n_one (l : List Int) : ∀ v ∈ l.flatMap nCells, v.oneCell' = true := by
 intro v hv
 obtain ⟨x, _, hx⟩ := List.mem_flatMap.1 hv
 simp at hx
 subst hx
 rfl
theorem n_len (l : List Int) : (l.flatMap nCells).length = l.length * 1 := flat_length nCells 1 (fun _ => rfl) l
set_option maxRecDepth 100000 in
set_option maxHeartbeats 2000000 in
theorem cloneO_any (A : Option Addr) (c : Nat) (l : List Int) (w : World) (hl : l.length ≤ 1048576) (he : Cells w A (l.flatMap nCells)) :
  Calls Tryz.prog 115 #[.slice A l.length c] w fun e w' => ∃ v, e = .returned v ∧ w'.ownsRow w.heap.size 3 1 v l.length (l.flatMap nCells) ∧ Below w.heap.size w w' := by
 cases A with
 | none =>
  obtain rfl : l = [] := by
   cases l with
   | nil => rfl
   | cons a l => obtain ⟨b, off, h, _⟩ := n_at he (by simp); cases h
  go_enter Tryz.func115, Tryz.ntmps115
  go_wp2
  go_ret
  exact ⟨_, rfl, ⟨rfl, .inl ⟨rfl, rfl⟩⟩, Below.refl _ _⟩
 | some a =>
  obtain ⟨i0, hi0, hz0, hz1, hz2⟩ := info_parts infoInt
  go_enter Tryz.func115, Tryz.ntmps115
  go_wp2_with (at_builtin; refine wpList_append_any _ rfl _ _ _ rfl w.heap.size 3 i0 _ 1 8 Tryz.underlying38 hi0 hz0 hz1 hz2 rfl (by omega) (.slice (some ⟨w.heap.size, 0, none⟩) 0 0) 0 [] rfl (World.ownsRow_lit (e := 3) _ _ 0 (Nat.le_refl _) (by simp [maxLen]) rfl) (some a) l.length c (l.flatMap nCells) rfl (n_len l) (Cells.alloc he _) (n_one l) (by simp only [maxLen]; omega) (by omega) (by simp) ?_; intro v1 w1 hown hg hat)
  go_ret
  rw [List.nil_append, Nat.zero_add] at hown
  exact ⟨_, rfl, hown, (((Below.refl _ _).alloc (Nat.le_refl _) _).grown hg (by simp) (by simp [Value.ownBlock]))⟩
theorem cloneN_any (A : Option Addr) (c : Nat) (l : List Int) (w : World) (hl : l.length ≤ 1048576) (he : Cells w A (l.flatMap nCells)) :
  Calls Tryz.prog 115 #[.slice A l.length c] w fun e w' => ∃ v, e = .returned v ∧ NewRow w l.length (l.flatMap nCells) v w' :=
 (cloneO_any A c l w hl he).mono fun e w' h => by
  obtain ⟨v, rfl, hown, hb⟩ := h
  exact ⟨v, rfl, newRow_of_own hown rfl rfl (Nat.le_refl _) hb⟩
theorem wpList_append_zeros {P : Program} {w : World} {ops : Array Oper} {rest : List Oper} {o : Oper} {a : Act} {Q : Exit → Act → World → Prop} (hgd : o.guard = none) (s x : Operand) (t tn : TypeId)
  (ho : o.op = .call { callee := .builtin .append, args := #[s, x], argTypes := #[t, tn] }) (n : Nat) (v : Value) (w' : World) (hs : a.eval s = .slice none 0 0) (hx : a.eval x = .int .i64 n)
  (hr : (Builtin.append_ #[t, tn] o.type #[.slice none 0 0, .int .i64 n]).run P w = .ok v w') (h : wpList P ops Q rest (a.put o.dst v) w') : wpList P ops Q (o :: rest) a w :=
 wpList_plain hgd fun K hK => by
  unfold Oper.wp execOp
  simp only [ho, resolve, invoke, builtin, Sem.run_bind, Sem.run_pure, Result.andThen_ok, List.map_toArray, List.map_cons, List.map_nil, hs, hx, hr]
  exact hK _ _ h
set_option maxRecDepth 100000 in
set_option maxHeartbeats 2000000 in
theorem growN_any (n : Nat) (w : World) (hn : n ≤ 1024) :
  Calls Tryz.prog 150 #[.slice none 0 0, .int .i64 n] w fun e w' => ∃ A c, e = .returned (.slice A 0 c) ∧ w'.ownsRow w.heap.size 3 1 (.slice A 0 c) 0 [] ∧ Below w.heap.size w w' := by
 have n0 : (0 : Int) ≤ (n : Int) := by omega
 have n1 : (n : Int) ≤ 1024 := by omega
 by_cases h0 : n = 0
 ·subst h0
  go_enter Tryz.func150, Tryz.ntmps150
  go_wp2_with fail
  go_ret
  exact ⟨none, 0, rfl, ⟨rfl, .inl ⟨rfl, rfl⟩⟩, Below.refl _ _⟩
 ·have hpos : (0 : Int) < (n : Int) := by omega
  have hnp : 0 < n := by omega
  obtain ⟨i0, hi0, hz0, hz1, hz2⟩ := info_parts infoInt
  have hge := grownCap_ge w n 0 3
  have hle := grownCap_le_maxLen w n 0 3 (by unfold maxLen; omega)
  have hrun := fun ty => Go.Lib.run_append_grow_zeros (P := Tryz.prog) w 38 3 ty 3 i0 (.int .i64 0) .i64 .i64 Tryz.underlying38 Tryz.underlying3 hi0 hz0 none 0 0 [] (run_firstCells_none w.drew i0.size 0 0 0) n hnp (by omega) (by omega) (by omega) (by rw [hz2]; omega) (by rw [hz2, Nat.zero_add]; exact growslice_fits hnp (by omega))
  obtain ⟨G, hG⟩ : ∃ G, grownCap w n 0 3 = G := ⟨_, rfl⟩
  simp only [Nat.zero_add] at hrun
  rw [hG] at hge hle
  simp only [hG] at hrun
  obtain ⟨cs, hcs⟩ : ∃ cs, cs = ([] : List Value).toArray ++ Builtin.zeroCells (Value.int .i64 0).cells n ++ Builtin.zeroCells (Value.int .i64 0).cells (G - n) := ⟨_, rfl⟩
  have hsz : cs.size = G * 1 := by rw [hcs]; simp [size_zeroCells, Value.cells]; omega
  simp only [← hcs] at hrun
  have Hcs := Lib.hid hsz
  have gI : (G : Int) ≤ 9223372036854775807 := by unfold maxLen at hle; omega
  have g0 : (0 : Int) ≤ (G : Int) := by omega
  have Hle := Lib.hid hle
  have Hrun := Lib.hid hrun
  clear hG hcs hsz hge hle hrun h0
  go_enter Tryz.func150, Tryz.ntmps150
  go_wp2_with (at_builtin; refine wpList_append_zeros rfl (.tmp 20) (.tmp 21) _ _ rfl n _ _ rfl rfl (Hrun.out _) ?_)
  go_ret
  refine ⟨some ⟨w.heap.size, 0, none⟩, G, rfl, ⟨rfl, .inr ⟨w.heap.size, G, cs, rfl, Nat.le_refl _, heap_at rfl, Nat.zero_le _, Hle.out, Hcs.out, by simp⟩⟩, by go_grown⟩
set_option maxRecDepth 100000 in
set_option maxHeartbeats 4000000 in
theorem concat_any (S : Nat) (cS : Nat) (l1 l2 : List Int) (A1 A2 : Option Addr) (c1 c2 : Nat) (w : World) (hS : w.heap[S]? = some (.cells #[.slice A1 l1.length c1, .slice A2 l2.length c2] 38 (0, 0))) (h1 : Cells w A1 (l1.flatMap nCells)) (h2 : Cells w A2 (l2.flatMap nCells)) (hl : l1.length + l2.length ≤ 512) :
  Calls Tryz.prog 132 #[.slice (some ⟨S, 0, none⟩) 2 cS] w fun e w' => ∃ v, e = .returned v ∧ NewRow w (l1.length + l2.length) ((l1 ++ l2).flatMap nCells) v w' := by
 obtain ⟨i0, hi0, hz0, hz1, hz2⟩ := info_parts infoInt
 have HS := Lib.hid hS
 have H1 := Lib.hid h1
 have H2 := Lib.hid h2
 obtain ⟨n1, Hn1⟩ : ∃ x, Hid (l1.length = x) := ⟨_, Lib.hid rfl⟩
 obtain ⟨n2, Hn2⟩ : ∃ x, Hid (l2.length = x) := ⟨_, Lib.hid rfl⟩
 have HL : Hid (n1 + n2 ≤ 512) := Lib.hid (by rw [← Hn1.out, ← Hn2.out]; exact hl)
 have b1 : (n1 : Int) ≤ 512 := by have := HL.out; omega
 have b2 : (n2 : Int) ≤ 512 := by have := HL.out; omega
 have b3 : (n1 : Int) + (n2 : Int) ≤ 512 := by have := HL.out; omega
 have a1 : (0 : Int) ≤ (n1 : Int) := by omega
 have a2 : (0 : Int) ≤ (n2 : Int) := by omega
 have a3 : (0 : Int) ≤ (n1 : Int) + (n2 : Int) := by omega
 rw [Hn1.out, Hn2.out] at HS
 rw [Hn1.out, Hn2.out]
 clear hS h1 h2 hl
 obtain ⟨s0, s1, _⟩ := box2 HS.out
 have zS := lt_of_heap HS.out
 go_enter Tryz.func132, Tryz.ntmps132
 go_wp2_with fail
 go_loopw [3, 5, 11] (fun t3 _ t wr => (t = .int .i64 0 ∧ t3 = .int .i64 0 ∨ t = .int .i64 1 ∧ t3 = .int .i64 n1 ∨ t = .int .i64 2 ∧ t3 = .int .i64 ((n1 : Int) + (n2 : Int))) ∧ w = wr) (fun _ _ t _ => (2 - intOf t).toNat)
 case atStart => exact ⟨.inl ⟨rfl, rfl⟩, rfl⟩
 case round =>
  obtain ⟨hk, hw⟩ := hrel
  subst hw
  rcases hk with ⟨rfl, rfl⟩ | ⟨rfl, rfl⟩ | ⟨rfl, rfl⟩
  ·go_wp2_with fail
   go_roundw
   case rel => exact ⟨.inr (.inl ⟨rfl, by first | rfl | simp⟩), by first | rfl | trivial⟩
   case measure => simp [intOf]
  ·go_wp2_with fail
   go_roundw
   case rel => exact ⟨.inr (.inr ⟨rfl, by first | rfl | simp⟩), by first | rfl | trivial⟩
   case measure => simp [intOf]
  ·go_wp2_with fail
   have HG := Lib.hid (growN_any (n1 + n2) w (by have := HL.out; omega))
   rw [Int.natCast_add] at HG
   refine HG.out.mono ?_
   rintro r w1 ⟨Ag, cg, rfl, hown, hb⟩
   have Hown0 := Lib.hid hown
   have HB0 := Lib.hid hb
   clear hown hb HG
   go_wp2_with fail
   go_loopw [6, 8, 27] (fun t6 _ t wr => (t = .int .i64 0 ∧ (∃ A c, t6 = .slice A 0 c ∧ wr.ownsRow w.heap.size 3 1 (.slice A 0 c) 0 []) ∨ t = .int .i64 1 ∧ (∃ A c, t6 = .slice A n1 c ∧ wr.ownsRow w.heap.size 3 1 (.slice A n1 c) n1 (l1.flatMap nCells)) ∨ t = .int .i64 2 ∧ (∃ A c, t6 = .slice A (n1 + n2) c ∧ wr.ownsRow w.heap.size 3 1 (.slice A (n1 + n2) c) (n1 + n2) ((l1 ++ l2).flatMap nCells))) ∧ Below w.heap.size w wr) (fun _ _ t _ => (2 - intOf t).toNat)
   case atStart => exact ⟨.inl ⟨rfl, Ag, cg, rfl, Hown0.out⟩, HB0.out⟩
   case round =>
    clear Hown0 HB0
    obtain ⟨hk, hb⟩ := hrel
    have HB := Lib.hid hb
    have HS1 := Lib.hid (row_below HS.out hb)
    obtain ⟨y0, y1, _⟩ := box2 HS1.out
    have zS1 := lt_of_heap HS1.out
    clear hb s0 s1 zS
    rcases hk with ⟨rfl, Az, cz, rfl, hown⟩ | ⟨rfl, Az, cz, rfl, hown⟩ | ⟨rfl, Az, cz, rfl, hown⟩
    ·have Hown := Lib.hid hown
     clear hown
     go_wp2_with (at_builtin; refine wpList_append_any _ rfl (.tmp 31) (.tmp 32) _ rfl w.heap.size 3 i0 _ 1 8 Tryz.underlying38 hi0 hz0 hz1 hz2 rfl (by omega) (.slice Az 0 cz) 0 ([]) (by rfl) Hown.out A1 n1 c1 (l1.flatMap nCells) (by rfl) (by rw [n_len, Hn1.out]) (Cells.below H1.out HB.out) (n_one _) (by have := HL.out; simp only [maxLen]; omega) (by have := HL.out; omega) (by have := HB.out.size; omega) ?_; intro v2 w2 hown2 hg2 hat2; obtain ⟨A3, c3, rfl, hc3, hm3, -⟩ := own_slice hown2; have Hown2 := Lib.hid hown2; have HB2 := Lib.hid (show Below w.heap.size w w2 from HB.out.grown hg2 (by have := HB.out.size; omega) (own_ge Hown.out)); clear hown2 hg2 hat2)
     go_roundw
     case rel => exact ⟨.inr (.inl ⟨by first | rfl | go_num, A3, c3, by simp, by simpa using Hown2.out⟩), HB2.out⟩
     case measure => simp [intOf]
    ·have Hown := Lib.hid hown
     clear hown
     go_wp2_with (at_builtin; refine wpList_append_any _ rfl (.tmp 31) (.tmp 32) _ rfl w.heap.size 3 i0 _ 1 8 Tryz.underlying38 hi0 hz0 hz1 hz2 rfl (by omega) (.slice Az n1 cz) n1 (l1.flatMap nCells) (by rfl) Hown.out A2 n2 c2 (l2.flatMap nCells) (by rfl) (by rw [n_len, Hn2.out]) (Cells.below H2.out HB.out) (n_one _) (by have := HL.out; simp only [maxLen]; omega) (by have := HL.out; omega) (by have := HB.out.size; omega) ?_; intro v2 w2 hown2 hg2 hat2; obtain ⟨A3, c3, rfl, hc3, hm3, -⟩ := own_slice hown2; have Hown2 := Lib.hid hown2; have HB2 := Lib.hid (show Below w.heap.size w w2 from HB.out.grown hg2 (by have := HB.out.size; omega) (own_ge Hown.out)); clear hown2 hg2 hat2)
     go_roundw
     case rel => exact ⟨.inr (.inr ⟨by first | rfl | go_num, A3, c3, rfl, by rw [List.flatMap_append]; exact Hown2.out⟩), HB2.out⟩
     case measure => simp [intOf]
    ·have Hown := Lib.hid hown
     clear hown
     go_wp2_with fail
     go_ret
     exact ⟨_, rfl, newRow_of_own Hown.out rfl rfl (Nat.le_refl _) HB.out⟩
end Go.Proofs.YtbijaloeilnjoaaGreat
