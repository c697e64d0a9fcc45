/- Layer 14: the walks of its statements' own functions: begun, steps, shown; and what a new arena is. -/
import Derived.Test.YthedndejlfkknaaFStep
import Derived.Test.YthedndejlfkknaaBRefC
import Derived.Deep.Cut
import Derived.Deep.CutRange
import Derived.Deep.CutBlock
namespace Go.Proofs.Ythedndejlfkknaa
open Go.RowKit
set_option linter.unusedVariables false
set_option linter.unusedSimpArgs false

theorem set_row' {P : World → Prop} (W : World) (g : Nat) (cs cs' : Array Value) (t : TypeId) (h : W.heap[g]? = some (.cells cs t (0, 0)))
    (K : ∀ Y, Y.heap[g]? = some (.cells cs' t (0, 0)) → Keep [g] W Y → P Y) : P (W.setRow g cs') :=
  K _ (setRow_heap _ _ _ _ _ _ h) ((Keep.refl [g] W).setRow (g := g) (.inl (by simp)) cs')
theorem alloc_set' {P : World → Prop} (w : World) (c c' : Array Value) (t : TypeId) (h : ∀ W, W.heap[w.heap.size]? = some (.cells c' t (0, 0)) → Below w.heap.size w W → P W) : P ((w.alloc (.cells c t)).setRow w.heap.size c') :=
  h _ (setRow_heap _ _ _ _ _ _ (row_new _ _ _)) (below_setRow ((Below.refl _ _).alloc (Nat.le_refl _) _) (Nat.le_refl _) _)
theorem infoCal7 : (Try.prog.info? 35).map (·.size) = some 7 := by kernel_rfl
theorem infoOp2 : (Try.prog.info? 45).map (·.size) = some 2 := by kernel_rfl
theorem undOp2 : Try.prog.underlying 45 = some (.struct (Try.prog.fieldsOf 45)) := by kernel_rfl
/-- a new arena's scopes -/
theorem fs_new {B : Nat} {w : World} {p b g : Nat} {q : Option Nat} {s t i h : Int} (H : PlanOk s t i h) (hA : Arn w p b (newWs s i h)) (hG : Gr B w g (64 * s + i) (64 * s + i + h) (oneExt (64 * s + i) h) q) (hl : B ≤ p ∧ B ≤ b) (hn : g ≠ p ∧ g ≠ b ∧ ∀ j, q = some j → j ≠ p ∧ j ≠ b) :
    Fs B w p b g q (64 * s + i) (64 * s + i + h) (newS ⟨s, t, i, h⟩) (newWs s i h) := by
  have hlen : (newS ⟨s, t, i, h⟩).l.length = s.toNat := by have := H.s0; simp [newS]; omega
  have hs0 := H.s0
  have hs1 := H.s1
  have hi0 := H.i0
  have hi1 := H.i1
  refine ⟨hA, ?_, wsS_new H, ?_, ?_, by omega, by omega, hl, hn⟩
  · simp only [newS]
    rw [Int.mul_comm s 64]
    exact hG
  · intro x hx
    simp only [newS, List.mem_cons, List.mem_replicate] at hx
    rcases hx with rfl | ⟨_, rfl⟩
    · exact ⟨immC_right, by simp only; omega, by simp only; omega⟩
    · exact ⟨by decide, by decide, by decide⟩
  · intro x hx
    simp only [newS, List.mem_cons, List.mem_replicate] at hx
    rcases hx with rfl | ⟨_, rfl⟩
    · simp only; omega
    · simp only [scFree]; omega
/-- the call that is begun -/
def begA (mk : Bool) (n : Int) : Int := if mk then 1 + n % 512 else 1 + n % 8
def begR (s : Int) (mk : Bool) (n : Int) (ch : Sl) : Rn := rbeginRn s [] ⟨if mk then 2 else 3, 0, 0, 0, begA mk n, 0, 0⟩ 0 0 ch
theorem begR_make (s n : Int) (ch : Sl) : begR s true n ch = ⟨⟨2, 0, 0, 0, 1 + n % 512, 0, 0⟩, 1, 0, 0, 0, ch, 0, 0, 0, 0, noS, 0, noS, 0, false, false, false, 0, 0, noS⟩ := by
  have h : inB (1 + n % 512) 1 8192 = true := inB_t (by omega)
  unfold begR rbeginRn begA
  simp [beginS, h]
  rfl
theorem begR_gone {s n : Int} (h : inB (1 + n % 8) 1 (s - 1) = true) (ch : Sl) : begR s false n ch = ⟨⟨3, 0, 0, 0, 1 + n % 8, 0, 0⟩, 1, 0, 0, 0, ch, 0, 0, 0, 0, noS, 0, noS, 0, false, false, false, 0, 0, noS⟩ := by
  unfold begR rbeginRn begA
  simp [beginS, h]
  rfl
theorem begR_none {s n : Int} (h : inB (1 + n % 8) 1 (s - 1) = false) (ch : Sl) : begR s false n ch = ⟨⟨3, 0, 0, 0, 1 + n % 8, 0, 0⟩, 0, 0, 0, 0, ch, 0, 0, 0, 0, noS, 0, noS, 0, false, false, false, 11, 0, noS⟩ := by
  unfold begR rbeginRn begA
  simp [beginS, h]
  rfl

set_option maxRecDepth 100000 in
set_option maxHeartbeats 4000000 in
theorem begun_any (s t i h : Int) (mk : Bool) (n : Int) (w : World) (H : PlanOk s t i h) (hn : -9223372036854775808 ≤ n ∧ n ≤ 9223372036854775807) :
    Calls Try.prog 13 #[.agg #[.int .i64 s, .int .i64 t, .int .i64 i, .int .i64 h], .bool mk, .int .i64 n] w fun r w' => ∃ kc cA, r = .returned (begR s mk n ⟨cA, 0, kc⟩).v ∧ Below w.heap.size w w' := by
  have HH := Lib.hid H
  obtain ⟨d7, hd7⟩ : ∃ d, bits .and .i64 n 7 = d := ⟨_, rfl⟩
  obtain ⟨d9, hd9⟩ : ∃ d, bits .and .i64 n 511 = d := ⟨_, rfl⟩
  have E7 : Hid (d7 = n % 8) := Lib.hid (by rw [← hd7]; exact mask3 n)
  have E9 : Hid (d9 = n % 512) := Lib.hid (by rw [← hd9]; exact i64_mask 9 n 511 (by omega) rfl)
  have b7 : 0 ≤ d7 ∧ d7 ≤ 7 := by have := E7.out; omega
  have b9 : 0 ≤ d9 ∧ d9 ≤ 511 := by have := E9.out; omega
  obtain ⟨b70, b71⟩ := b7
  obtain ⟨b90, b91⟩ := b9
  have w7 : IntKind.i64.wrap (1 + d7) = 1 + d7 := IntWalk.i64_in _ (by omega)
  have w9 : IntKind.i64.wrap (1 + d9) = 1 + d9 := IntWalk.i64_in _ (by omega)
  clear H hn
  go_enter Try.func13, Try.ntmps13
  go_upto_region 1 with fail
  refine two_rows' w _ _ _ _ ?_
  intro w1 hP hZ hb
  have H_p := Lib.hid (show w1.heap[w.heap.size]? = some (.cells #[.int .i64 s, .int .i64 t, .int .i64 i, .int .i64 h] 23 (0, 0)) from hP)
  have H_z := Lib.hid (show w1.heap[w.heap.size + 1]? = some (.cells ZRun 42 (0, 0)) from hZ)
  have M_p_z : Hid (w.heap.size ≠ w.heap.size + 1) := Lib.hid (by omega)
  have M_z_p : Hid (w.heap.size + 1 ≠ w.heap.size) := Lib.hid (by omega)
  clear hP hZ
  have B := Lib.hid (hb)
  clear hb
  go_upto_region 2 with fail
  refine one_row w1 _ _ ?_
  intro w2 hr hb
  have hlB := B.out.size
  have hl_p := lt_of_heap H_p.out
  have hl_z := lt_of_heap H_z.out
  have hsz := (hb).size
  replace H_p := Lib.hid (row_below H_p.out hb)
  replace H_z := Lib.hid (row_below H_z.out hb)
  replace B := Lib.hid (below_only B.out hb)
  clear hb hsz
  have H_k := Lib.hid (show w2.heap[w1.heap.size]? = some (.cells #[.int .u8 3, .int .u8 0, .int .u8 0, .int .u8 0, .int .i64 (1 + d7), .int .i64 0, .int .i64 0] 35 (0, 0)) from hr)
  clear hr
  obtain ⟨g_k, hg_k⟩ : ∃ x, x = w1.heap.size := ⟨_, rfl⟩
  rw [← hg_k] at H_k ⊢
  have M_p_k : Hid (w.heap.size ≠ g_k) := Lib.hid (by omega)
  have M_k_p : Hid (g_k ≠ w.heap.size) := Lib.hid (by omega)
  clear hl_p
  have M_z_k : Hid ((w.heap.size + 1) ≠ g_k) := Lib.hid (by omega)
  have M_k_z : Hid (g_k ≠ (w.heap.size + 1)) := Lib.hid (by omega)
  clear hl_z
  have L_k : Hid (w.heap.size ≤ g_k) := Lib.hid (by omega)
  clear hg_k hlB
  go_upto_if 12 with fail
  try simp only [Act.put]
  go_cut [] from 12 to 16 (fun wx => ∃ (c : Cal), c = ⟨if mk then 2 else 3, 0, 0, 0, begA mk n, 0, 0⟩ ∧ wx.heap[g_k]? = some (.cells #[.int .u8 c.op, .int .u8 c.r, .int .u8 c.h, .int .u8 c.v, .int .i64 c.a, .int .i64 c.b, .int .i64 c.c] 35 (0, 0)) ∧ wx.heap[w.heap.size]? = some (.cells #[.int .i64 s, .int .i64 t, .int .i64 i, .int .i64 h] 23 (0, 0)) ∧ wx.heap[w.heap.size + 1]? = some (.cells ZRun 42 (0, 0)) ∧ Below w.heap.size w wx)
  case first =>
    cases mk with
    | false =>
      go_wp2_with fail
      go_meet
      exact ⟨⟨3, 0, 0, 0, 1 + n % 8, 0, 0⟩, rfl, by rw [← E7.out]; exact H_k.out, H_p.out, H_z.out, B.out⟩
    | true =>
      go_wp2_with (refine wpList_store_row rfl 35 (.tmp 7) (.tmp 16) rfl g_k #[.int .u8 2, .int .u8 0, .int .u8 0, .int .u8 0, .int .i64 (1 + d9), .int .i64 0, .int .i64 0] rfl rfl 35 _ H_k.out infoCal7 rfl (by kernel_rfl) ?_; (try simp only [Act.put]); (try simp only [List.setIfInBounds_toArray]); (try simp only [List.set_cons_succ]); (try simp only [List.set_cons_zero]))
      go_meet
      have hK := (Keep.refl [g_k] w2).setRow (g := g_k) (.inl (by simp)) #[.int .u8 2, .int .u8 0, .int .u8 0, .int .u8 0, .int .i64 (1 + d9), .int .i64 0, .int .i64 0]
      exact ⟨⟨2, 0, 0, 0, 1 + n % 512, 0, 0⟩, rfl, by rw [← E9.out]; exact setRow_heap _ _ _ _ _ _ H_k.out, hK.row H_p.out (by simpa using M_p_k.out), hK.row H_z.out (by simpa using M_z_k.out), Keep.under B.out hK (by have := B.out.size; omega) (by simp; exact L_k.out)⟩
  case rest =>
    obtain ⟨c, hc, hk, hp, hz, hB⟩ := hcut
    obtain ⟨w3, hwx⟩ : ∃ x, x = wc := ⟨_, rfl⟩
    subst hwx
    clear H_k H_p H_z B w7 w9 hd7 hd9 b70 b71 b90 b91
    have H_z := Lib.hid hz
    have B := Lib.hid hB
    have Hc := Lib.hid hc
    have Hcal : Hid (CalOk c) := Lib.hid (by
      subst hc
      refine ⟨by cases mk <;> simp, by simp, by simp, by simp, ?_, by simp, by simp⟩
      unfold begA
      cases mk <;> simp <;> omega)
    obtain ⟨x0, x1, x2, x3, _⟩ := box4 hp
    obtain ⟨k0, k1, k2, k3, k4, k5, k6⟩ := box7 hk
    have zk := lt_of_heap hk
    have zp := lt_of_heap hp
    clear hc hk hp hz hB
    go_wp2_with fail
    have hr4 : (w3.alloc (.cells #[.int .u64 0, .int .u64 0, .int .u64 0, .int .u64 0] 36)).heap[w3.heap.size]? = _ := row_new _ _ _
    obtain ⟨m0, m1, m2, m3, _⟩ := box4 hr4
    have hba : Below w3.heap.size w3 (w3.alloc (.cells #[.int .u64 0, .int .u64 0, .int .u64 0, .int .u64 0] 36)) := by go_grown
    refine (rof_any ⟨s, t, i, h⟩ none 0 [] c 0 0 0 0 w3.heap.size 0 4 _ (by simp) (by simp) Cells.nil HH.out.s0 HH.out.s1 Hcal.out (by simp) (by simp) (by simp) (by simp) (by simp) m0 m1 m2 m3).mono ?_
    rintro r w4 ⟨kc, cA, rfl, -, -, hb⟩
    have HR : Hid (rbeginRn s [] c (rregR 0 0 0 0 c.h) (rregR 0 0 0 0 c.v) ⟨cA, 0, kc⟩ = begR s mk n ⟨cA, 0, kc⟩) := Lib.hid (by rw [Hc.out]; rfl)
    rw [show (([] : List Ent).length) = 0 from rfl, HR.out]
    replace H_z := Lib.hid (row_below (row_below H_z.out hba) hb)
    replace B := Lib.hid (below_only (below_only B.out hba) hb)
    clear hb hba hr4 m0 m1 m2 m3 x0 x1 x2 x3 k0 k1 k2 k3 k4 k5 k6 zk zp
    obtain ⟨R, HRe⟩ : ∃ x, Hid (begR s mk n ⟨cA, 0, kc⟩ = x) := ⟨_, Lib.hid rfl⟩
    rw [HRe.out]
    go_wp2_with (refine wpList_store_row rfl 42 (.tmp 6) (.tmp 20) rfl (w.heap.size + 1) R.arr rfl rfl 42 ZRun H_z.out infoRun rfl (Rn.one _) ?_)
    refine bodyPost_ret (results_cell_row (fn := Try.f13) rfl _ _ (w.heap.size + 1) 42 R.arr (0, 0) _ rfl (setRow_heap w4 _ _ _ _ (0, 0) H_z.out) undRun rfl infoRun) rfl ?_
    exact ⟨kc, cA, by rw [HRe.out], below_setRow B.out (by omega) _⟩

/-- what an op makes of scopes, of words; the call behind it; whether it is done -/
def does14 (f e : Int) (mk : Bool) (n : Int) (S : Sco) : Sco := if mk then (createS (begA mk n) S).2 else (destroyS f e (begA mk n) S).2
def words14 (mk : Bool) (n : Int) (S : Sco) (ws : List Int) : List Int := if mk then createW (begA mk n) S ws else if inS (begA mk n) 1 S = true then destroyW (begA mk n) S ws else ws
def run14 (f e s : Int) (mk : Bool) (n : Int) (S : Sco) (ch : Sl) : Rn :=
  if mk then toldR (begR s mk n ch) (createS (begA mk n) S).1.2 (createS (begA mk n) S).1.1 noS
  else if inS (begA mk n) 1 S = true then toldR (begR s mk n ch) (destroyS f e (begA mk n) S).1 0 noS
  else begR s mk n ch
def done14 (mk : Bool) (n : Int) (S : Sco) : Bool := mk || inS (begA mk n) 1 S
theorem does14_len (f e : Int) (mk : Bool) (n : Int) (S : Sco) : (does14 f e mk n S).l.length = S.l.length := by
  unfold does14
  cases mk with
  | true => exact createS_len _ _
  | false => exact destroyS_len _ _ _ _
theorem begA_in (n : Int) : inB (begA true n) 1 8192 = true := inB_t (by unfold begA; simp; omega)
theorem begA_nat (mk : Bool) (n : Int) : ∃ k : Nat, begA mk n = k ∧ 1 ≤ k := by
  refine ⟨(begA mk n).toNat, ?_, ?_⟩ <;> (unfold begA; cases mk <;> simp <;> omega)

set_option maxRecDepth 100000 in
set_option maxHeartbeats 4000000 in
theorem steps_any (B p b g : Nat) (q : Option Nat) (f e : Int) (S : Sco) (ws : List Int) (s t i h : Int) (mk : Bool) (n : Int) (w : World) (H : PlanOk s t i h) (hF : Fs B w p b g q f e S ws) (hS : (S.l.length : Int) = s) (hn : -9223372036854775808 ≤ n ∧ n ≤ 9223372036854775807) :
    Calls Try.prog 17 #[.agg #[.int .i64 s, .int .i64 t, .int .i64 i, .int .i64 h], .pointer (some ⟨p, 0, none⟩), .pointer (some ⟨g, 0, none⟩), .agg #[.bool mk, .int .i64 n]] w fun r w' => ∃ kc cA q', r = .returned (.tuple #[(run14 f e s mk n S ⟨cA, 0, kc⟩).v, .bool (done14 mk n S)]) ∧
      Fs B w' p b g q' f e (does14 f e mk n S) (words14 mk n S ws) ∧ NewQ w q q' ∧ Keep (FsT b g q) w w' := by
  have HH := Lib.hid H
  have HF0 := Lib.hid hF
  have HS := Lib.hid hS
  have HN := Lib.hid hn
  clear H hF hS hn
  go_enter Try.func17, Try.ntmps17
  go_upto_region 1 with fail
  refine three_rows w _ _ _ _ _ _ ?_
  intro w1 hP hO hZ hb
  obtain ⟨x0, x1, x2, x3, _⟩ := box4 hP
  obtain ⟨y0, y1, _, _⟩ := box2 hO
  have zp := lt_of_heap hP
  have zo := lt_of_heap hO
  have H_p := Lib.hid (show w1.heap[w.heap.size]? = some (.cells #[.int .i64 s, .int .i64 t, .int .i64 i, .int .i64 h] 23 (0, 0)) from hP)
  have H_z := Lib.hid (show w1.heap[w.heap.size + 1 + 1]? = some (.cells ZRun 42 (0, 0)) from hZ)
  have Nn : Hid (w.heap.size ∉ FsT b g q ∧ w.heap.size + 1 + 1 ∉ FsT b g q) := Lib.hid ⟨HF0.out.fresh (by omega), HF0.out.fresh (by omega)⟩
  have HB := Lib.hid hb
  have HF := Lib.hid (HF0.out.below hb)
  clear hP hO hZ hb
  go_wp2_with fail
  refine (begun_any s t i h mk n _ HH.out HN.out).mono ?_
  rintro r w2 ⟨kc, cA, rfl, hb⟩
  replace H_p := Lib.hid (row_below H_p.out hb)
  replace H_z := Lib.hid (row_below H_z.out hb)
  replace HF := Lib.hid (HF.out.below hb)
  replace HB := Lib.hid (below_only HB.out hb)
  obtain ⟨R, HRe⟩ : ∃ x, Hid (begR s mk n ⟨cA, 0, kc⟩ = x) := ⟨_, Lib.hid rfl⟩
  rw [HRe.out]
  clear hb x0 x1 x2 x3 y0 y1 zp zo
  go_upto_region 2 with (refine wpList_store_row rfl 42 (.tmp 10) (.tmp 18) rfl w2.heap.size R.arr rfl rfl 42 ZRun (row_new _ _ _) infoRun rfl (Rn.one _) ?_)
  refine alloc_set' w2 _ _ _ ?_
  intro w3 hr hb
  obtain ⟨gr, hgr⟩ : ∃ x, x = w2.heap.size := ⟨_, rfl⟩
  rw [← hgr] at hr ⊢
  have H_r := Lib.hid (show w3.heap[gr]? = some (.cells R.arr 42 (0, 0)) from hr)
  have Mr : Hid (gr ≠ w.heap.size + 1 + 1 ∧ gr ≠ w.heap.size ∧ gr ∉ FsT b g q ∧ w.heap.size ≤ gr) := Lib.hid ⟨by have := lt_of_heap H_z.out; omega, by have := lt_of_heap H_p.out; omega, HF.out.fresh (by omega), by have := HB.out.size; omega⟩
  replace H_p := Lib.hid (row_below H_p.out hb)
  replace H_z := Lib.hid (row_below H_z.out hb)
  replace HF := Lib.hid (HF.out.below hb)
  replace HB := Lib.hid (below_only HB.out hb)
  clear hb hr hgr
  have hpc : R.pc = 1 ∨ (R.pc = 0 ∧ mk = false ∧ inS (begA mk n) 1 S = false) := by
    rw [← HRe.out]
    cases mk with
    | true => rw [begR_make]; exact .inl rfl
    | false =>
      cases hin : inB (1 + n % 8) 1 (s - 1) with
      | true => rw [begR_gone hin]; exact .inl rfl
      | false => rw [begR_none hin]; exact .inr ⟨rfl, rfl, by unfold inS begA; rw [HS.out]; exact hin⟩
  obtain ⟨pc, Hpc⟩ : ∃ x, Hid (R.pc = x) := ⟨_, Lib.hid rfl⟩
  have q7 : w3.cell? ⟨gr, 7, none⟩ = some (.int .i64 pc) := by rw [row_cell H_r.out, ← Hpc.out]; rfl
  have zr := lt_of_heap H_r.out
  rw [Hpc.out] at hpc
  rcases hpc with hpc | ⟨hpc, hmk, hin⟩
  · subst hpc
    obtain ⟨x0, x1, x2, x3, _⟩ := box4 H_p.out
    have zp := lt_of_heap H_p.out
    have HC : Hid (∀ w4, Fs B w4 p b g q f e S ws → Calls Try.prog 15 #[.agg #[.int .i64 s, .int .i64 t, .int .i64 i, .int .i64 h], .pointer (some ⟨p, 0, none⟩), .pointer (some ⟨g, 0, none⟩), R.v] w4 fun y w' => ∃ q', y = .returned (.tuple #[(run14 f e s mk n S ⟨cA, 0, kc⟩).v, .int .i64 0]) ∧ Fs B w' p b g q' f e (does14 f e mk n S) (words14 mk n S ws) ∧ NewQ w4 q q' ∧ Keep (FsT b g q) w4 w') := Lib.hid fun w4 hF4 => by
      cases mk with
      | true =>
        have hR := HRe.out
        rw [begR_make] at hR
        refine (fstepC_any B p b g q f e S ws s t i h (begA true n) R w4 HH.out hF4 HS.out (begA_in n) (by rw [← hR]) (by rw [← hR]) (by rw [← hR]) (by rw [← hR]) (by rw [← hR]; simp [begA])).mono ?_
        rintro y w' ⟨rfl, h1, h2⟩
        exact ⟨q, by rw [← HRe.out]; rfl, h1, NewQ.refl, h2⟩
      | false =>
        cases hin : inB (1 + n % 8) 1 (s - 1) with
        | false =>
          have hR := HRe.out
          rw [begR_none hin] at hR
          have := Hpc.out
          rw [← hR] at this
          cases this
        | true =>
          have hR := HRe.out
          rw [begR_gone hin] at hR
          obtain ⟨k, hk, hk1⟩ := begA_nat false n
          have hk' : 1 + n % 8 = (k : Int) := by rw [← hk]; simp [begA]
          have hinS : inS (k : Int) 1 S = true := by unfold inS; rw [← hk', HS.out]; exact hin
          refine (fstepD_any B p b g q f e S ws s t i h k R w4 HH.out hF4 HS.out hinS (by rw [← hR]) (by rw [← hR]) (by rw [← hR]) (by rw [← hR]) (by rw [← hR]; exact hk')).mono ?_
          rintro y w' ⟨rfl, ⟨q', h1, h1'⟩, h2⟩
          have hinA : inS (begA false n) 1 S = true := by rw [hk]; exact hinS
          refine ⟨q', ?_, ?_, h1', h2⟩
          · unfold run14
            rw [if_neg (by simp), if_pos hinA, HRe.out, hk]
          · unfold does14 words14
            rw [if_neg (by simp), if_neg (by simp), if_pos hinA, hk]
            exact h1
    have HD : Hid (done14 mk n S = true ∧ (run14 f e s mk n S ⟨cA, 0, kc⟩).done = true) := Lib.hid (by
      unfold done14 run14
      cases mk with
      | true => exact ⟨rfl, rfl⟩
      | false =>
        cases hin : inB (1 + n % 8) 1 (s - 1) with
        | false =>
          have hR := HRe.out
          rw [begR_none hin] at hR
          have := Hpc.out
          rw [← hR] at this
          cases this
        | true =>
          have hinA : inS (begA false n) 1 S = true := by unfold inS begA; rw [HS.out]; exact hin
          rw [if_neg (by simp), if_pos hinA]
          exact ⟨by simp [hinA], rfl⟩)
    go_wp2_with (first | refine wpList_load_row rfl 42 (.tmp 10) rfl gr rfl 42 R.arr (0, 0) _ H_r.out undRun rfl infoRun ?_)
    refine (HC.out _ HF.out).mono ?_
    rintro r w4 ⟨q', rfl, hF4, hq4, hK4⟩
    obtain ⟨R2, HR2⟩ : ∃ x, Hid (run14 f e s mk n S ⟨cA, 0, kc⟩ = x) := ⟨_, Lib.hid rfl⟩
    rw [HR2.out]
    have Hd2 : Hid (R2.done = true) := Lib.hid (by rw [← HR2.out]; exact HD.out.2)
    have hz3 := lt_of_heap H_z.out
    replace H_z := Lib.hid (hK4.row H_z.out Nn.out.2)
    have Nz : Hid (w.heap.size + 1 + 1 ∉ FsT b g q') := Lib.hid (notin_new (w := w3) Nn.out.2 hz3 hq4)
    have Hq : Hid (NewQ w q q') := Lib.hid fun j hj => (hq4 j hj).imp id (fun h9 => Nat.le_trans HB.out.size h9)
    have HK := Lib.hid ((keep_below HB.out (FsT b g q)).trans hK4)
    replace HF := Lib.hid hF4
    clear hF4 hq4 hK4 q7 zr x0 x1 x2 x3 zp H_r hz3
    go_upto_region 5 with (refine wpList_store_row rfl 42 (.tmp 11) (.tmp 29) rfl w4.heap.size R2.arr rfl rfl 42 ZRun (row_new _ _ _) infoRun rfl (Rn.one _) ?_)
    refine alloc_set' w4 _ _ _ ?_
    intro w5 hr hb
    obtain ⟨gb, hgb⟩ : ∃ x, x = w4.heap.size := ⟨_, rfl⟩
    rw [← hgb] at hr ⊢
    have H_b := Lib.hid (show w5.heap[gb]? = some (.cells R2.arr 42 (0, 0)) from hr)
    have Mb : Hid (w.heap.size + 1 + 1 ≠ gb) := Lib.hid (by have := lt_of_heap H_z.out; omega)
    replace H_z := Lib.hid (row_below H_z.out hb)
    replace HF := Lib.hid (HF.out.below hb)
    replace HK := Lib.hid (HK.out.call hb)
    clear hb hr hgb
    refine wp_region_held_drew (S := fun W' => W'.heap[gb]? = some (.cells R2.arr 42 (0, 0))) (by kernel_rfl) (show w5.drew.heap[gb]? = _ from H_b.out) ?_
    intro hS
    have hZ0 : w5.drew.heap[w.heap.size + 1 + 1]? = some (.cells ZRun 42 (0, 0)) := H_z.out
    have hF9 : Fs B w5.drew p b g q' f e (does14 f e mk n S) (words14 mk n S ws) := HF.out.below (Below.drew (Below.refl _ _))
    have hK9 : Keep (FsT b g q) w w5.drew := HK.out.drew
    generalize w5.drew = y0 at hS hZ0 hF9 hK9 ⊢
    refine wpAnyH_take_at (i := 0) (v := .agg R2.arr) (some 31) rfl rfl (by kernel_rfl) (by kernel_rfl) (by kernel_rfl) (fun _ _ _ h => h) (yieldsIf_load_row (by kernel_rfl) 42 (.tmp 11) rfl gb rfl R2.arr (fun W' hW' => hW') undRun rfl infoRun) (by assumption) ?_
    try simp only [Act.put]
    try simp only [List.setIfInBounds_toArray]
    try simp only [List.set_cons_succ]
    try simp only [List.set_cons_zero]
    refine wpAnyH_take_at (i := 1) (v := ?v1x1) (some 32) rfl rfl (by kernel_rfl) (by kernel_rfl) (by kernel_rfl) (fun _ _ _ h => h) (Or.inl ⟨by kernel_rfl, ?h1x1⟩) (by assumption) ?r1x1
    case h1x1 => (intro w hSw; (try dsimp only at hSw); go_simp; first | done | (with_reducible rfl))
    try simp only [Act.put]
    try simp only [List.setIfInBounds_toArray]
    try simp only [List.set_cons_succ]
    try simp only [List.set_cons_zero]
    refine wpAnyH_take_at (i := 2) (v := ?v2x2) (some 33) rfl rfl (by kernel_rfl) (by kernel_rfl) (by kernel_rfl) (fun _ _ _ h => h) (Or.inl ⟨by kernel_rfl, ?h2x2⟩) (by assumption) ?r2x2
    case h2x2 => (intro w hSw; (try dsimp only at hSw); go_simp; first | done | (with_reducible rfl))
    try simp only [Act.put]
    try simp only [List.setIfInBounds_toArray]
    try simp only [List.set_cons_succ]
    try simp only [List.set_cons_zero]
    refine wpAnyH_take_at (i := 3) (v := ?v3x3) (some 34) rfl rfl (by kernel_rfl) (by kernel_rfl) (by kernel_rfl) (fun _ _ _ h => h) (Or.inl ⟨by kernel_rfl, ?h3x3⟩) (by assumption) ?r3x3
    case h3x3 => (intro w hSw; (try dsimp only at hSw); go_simp; first | done | (with_reducible rfl))
    try simp only [Act.put]
    try simp only [List.setIfInBounds_toArray]
    try simp only [List.set_cons_succ]
    try simp only [List.set_cons_zero]
    refine wpAnyH_take_at (i := 4) (v := ?v4x4) (some 35) rfl rfl (by kernel_rfl) (by kernel_rfl) (by kernel_rfl) (fun _ _ _ h => h) (Or.inl ⟨by kernel_rfl, ?h4x4⟩) (by assumption) ?r4x4
    case h4x4 => (intro w hSw; (try dsimp only at hSw); go_simp; first | done | (with_reducible rfl))
    try simp only [Act.put]
    try simp only [List.setIfInBounds_toArray]
    try simp only [List.set_cons_succ]
    try simp only [List.set_cons_zero]
    refine wpAnyH_take_at (i := 5) (v := ?v5x5) (some 36) rfl rfl (by kernel_rfl) (by kernel_rfl) (by kernel_rfl) (fun _ _ _ h => h) (Or.inl ⟨by kernel_rfl, ?h5x5⟩) (by assumption) ?r5x5
    case h5x5 => (intro w' hSw; have h4 : w'.cell? ⟨gb, 21, none⟩ = some (.bool true) := (by rw [row_cell hSw, ← Hd2.out]; rfl); (try dsimp only at hSw); go_simp; first | done | (with_reducible rfl))
    try simp only [Act.put]
    try simp only [List.setIfInBounds_toArray]
    try simp only [List.set_cons_succ]
    try simp only [List.set_cons_zero]
    refine wpAnyH_take_at (i := 6) (v := ?v6x6) (some 37) rfl rfl (by kernel_rfl) (by kernel_rfl) (by kernel_rfl) (fun _ _ _ h => h) (Or.inl ⟨by kernel_rfl, ?h6x6⟩) (by assumption) ?r6x6
    case h6x6 => (intro w hSw; (try dsimp only at hSw); go_simp; first | done | (with_reducible rfl))
    try simp only [Act.put]
    try simp only [List.setIfInBounds_toArray]
    try simp only [List.set_cons_succ]
    try simp only [List.set_cons_zero]
    refine wpAnyH_ready (rs := [7]) (by kernel_rfl) (by simp) ?_
    refine AllReadyH.cons rfl (fun K hK => ?_) AllReadyH.nil
    refine step_store_row none rfl rfl 42 (.tmp 8) (.tmp 31) rfl (w.heap.size + 1 + 1) R2.arr rfl rfl 42 ZRun hZ0 infoRun rfl (Rn.one _) ?_
    refine hK.out _ _ ((setRow_other _ _ _ _ Mb.out.symm).trans hS) (fun hS => ?_)
    clear hK K
    try simp only [Act.put]
    try simp only [List.setIfInBounds_toArray]
    try simp only [List.set_cons_succ]
    try simp only [List.set_cons_zero]
    refine wpAnyH_take_at (i := 8) (v := ?v8x7) (some 9) rfl rfl (by kernel_rfl) (by kernel_rfl) (by kernel_rfl) (fun _ _ _ h => h) (Or.inl ⟨by kernel_rfl, ?h8x7⟩) (by assumption) ?r8x7
    case h8x7 => (intro w hSw; (try dsimp only at hSw); go_simp; first | done | (with_reducible rfl))
    try simp only [Act.put]
    try simp only [List.setIfInBounds_toArray]
    try simp only [List.set_cons_succ]
    try simp only [List.set_cons_zero]
    refine wpAnyH_done (by kernel_rfl) ?_ _
    go_wp2_with fail
    refine bodyPost_ret (results_cell_row_tmp (fn := Try.f17) rfl _ _ (w.heap.size + 1 + 1) 42 R2.arr (0, 0) _ rfl (setRow_heap y0 _ _ _ _ (0, 0) hZ0) undRun rfl infoRun) rfl ?_
    refine ⟨kc, cA, q', by rw [HD.out.1, HR2.out]; rfl, hF9.kept ((Keep.refl [w.heap.size + 1 + 1] y0).setRow (g := w.heap.size + 1 + 1) (.inl (by simp)) _) (fun j hj hm => by simp only [List.mem_singleton] at hj; subst hj; rcases List.mem_cons.1 hm with h9 | h9; (have := HF0.out.lt; omega); exact Nz.out h9), Hq.out, hK9.setRow (.inr (by omega)) _⟩
  · subst hpc
    have HD : Hid (done14 mk n S = false ∧ run14 f e s mk n S ⟨cA, 0, kc⟩ = R ∧ does14 f e mk n S = S ∧ words14 mk n S ws = ws) := Lib.hid (by
      subst hmk
      unfold done14 run14 does14 words14
      rw [if_neg (by simp), if_neg (by rw [hin]; simp), if_neg (by simp), if_neg (by simp), if_neg (by rw [hin]; simp), hin, destroyS_out hin]
      exact ⟨rfl, HRe.out, rfl, rfl⟩)
    clear hmk hin
    go_wp2_with (first | refine wpList_load_row rfl 42 (.tmp 10) rfl gr rfl 42 R.arr (0, 0) _ H_r.out undRun rfl infoRun ?_ | refine wpList_store_row rfl 42 (.tmp 8) (.tmp 22) rfl (w.heap.size + 1 + 1) R.arr rfl rfl 42 ZRun H_z.out infoRun rfl (Rn.one _) ?_)
    refine bodyPost_ret (results_cell_row_tmp (fn := Try.f17) rfl _ _ (w.heap.size + 1 + 1) 42 R.arr (0, 0) _ rfl (setRow_heap w3 _ _ _ _ (0, 0) H_z.out) undRun rfl infoRun) rfl ?_
    refine ⟨kc, cA, q, by rw [HD.out.1, HD.out.2.1]; rfl, ?_, NewQ.refl, (keep_below HB.out _).setRow (.inr (by omega)) _⟩
    rw [HD.out.2.2.1, HD.out.2.2.2]
    exact HF.out.kept ((Keep.refl [w.heap.size + 1 + 1] w3).setRow (g := w.heap.size + 1 + 1) (.inl (by simp)) _) (fun j hj hm => by simp only [List.mem_singleton] at hj; subst hj; rcases List.mem_cons.1 hm with h9 | h9; (have := HF0.out.lt; omega); exact Nn.out.2 h9)

theorem shPlan : PlanOk 2 1 0 64 := ⟨by decide, by decide, by decide, by decide, by decide, by decide, by decide, by decide, by decide, by decide⟩
def shC : Rn := ⟨⟨2, 0, 0, 0, 8, 0, 0⟩, 1, 0, 0, 0, noS, 0, 0, 0, 0, noS, 0, noS, 0, false, false, false, 0, 0, noS⟩
def shS1 : Sco := ⟨[⟨⟨2, 1, -1, 0⟩, (128, 0)⟩, ⟨⟨1, 0, -1, 0⟩, (128, 8)⟩], [(136, 56)]⟩
theorem sh1 : createS 8 (newS ⟨2, 1, 0, 64⟩) = ((1, 0), shS1) := by kernel_rfl
theorem sh2 : createS 8 shS1 = ((0, 13), shS1) := by kernel_rfl

set_option maxRecDepth 100000 in
set_option maxHeartbeats 4000000 in
theorem shown_any (w : World) : Calls Try.prog 9 #[] w fun r w' => r = .returned (.bool true) ∧ Below w.heap.size w w' := by
  go_enter Try.func9, Try.ntmps9
  go_upto_region 2 with fail
  refine one_row w _ _ ?_
  intro w1 hr hb
  have B := Lib.hid (hb)
  clear hb
  have H_p := Lib.hid (show w1.heap[w.heap.size]? = some (.cells #[.int .i64 2, .int .i64 1, .int .i64 0, .int .i64 64] 23 (0, 0)) from hr)
  clear hr
  obtain ⟨p_0, p_1, p_2, p_3, p_f0, p_f1, p_f2, p_f3⟩ := box4 H_p.out
  have z_p := lt_of_heap H_p.out
  go_wp2_with fail
  refine (foundNewG_any 2 1 0 64 _ shPlan).mono ?_
  rintro r w2 ⟨p, b, g, q, rfl, hA, hG, hl, hn, hb⟩
  have hlp := lt_of_heap H_p.out
  have hl1 := B.out.size
  have HF := Lib.hid (fs_new (t := 1) shPlan hA hG hl hn)
  have Hl : Hid (w.heap.size ≤ w1.heap.size) := Lib.hid hl1
  have N_p : Hid (w.heap.size ∉ FsT b g q ∧ w.heap.size ≠ p) := Lib.hid ⟨HF.out.elder hlp, by have := hl.1; omega⟩
  clear hA hG hl hn hlp hl1
  clear p_0 p_1 p_2 p_3 p_f0 p_f1 p_f2 p_f3 z_p
  have hsz := (hb).size
  replace H_p := Lib.hid (row_below H_p.out hb)
  replace B := Lib.hid (below_only B.out hb)
  clear hb hsz
  replace HF : Hid (Fs w1.heap.size w2 p b g q 128 192 (newS ⟨2, 1, 0, 64⟩) (newWs 2 0 64)) := HF
  go_upto_region 6 with (first | (refine wpList_build_to rfl 42 _ rfl shC.arr (by kernel_rfl) ?_; (try simp only [Act.put]); (try simp only [List.setIfInBounds_toArray]); (try simp only [List.set_cons_succ]); (try simp only [List.set_cons_zero])) | (refine wpList_store_row rfl 42 (.tmp 5) (.tmp 28) rfl w2.heap.size shC.arr rfl rfl 42 ZRun (row_new _ _ _) infoRun rfl (Rn.one _) ?_; (try simp only [Act.put]); (try simp only [List.setIfInBounds_toArray]); (try simp only [List.set_cons_succ]); (try simp only [List.set_cons_zero])))
  refine alloc_set' w2 _ _ _ ?_
  intro w3 hr hb
  have hlB := B.out.size
  have hfr := HF.out.fresh (Nat.le_refl w2.heap.size)
  have hlp := HF.out.lt.1
  have hl_p := lt_of_heap H_p.out
  replace HF := Lib.hid (HF.out.below hb)
  have hsz := (hb).size
  replace H_p := Lib.hid (row_below H_p.out hb)
  replace B := Lib.hid (below_only B.out hb)
  clear hb hsz
  have H_c := Lib.hid (show w3.heap[w2.heap.size]? = some (.cells shC.arr 42 (0, 0)) from hr)
  clear hr
  obtain ⟨g_c, hg_c⟩ : ∃ x, x = w2.heap.size := ⟨_, rfl⟩
  rw [← hg_c] at H_c ⊢
  have N_c : Hid (g_c ∉ FsT b g q ∧ g_c ≠ p) := Lib.hid ⟨by rw [hg_c]; exact hfr, by omega⟩
  clear hfr hlp
  have M_p_c : Hid (w.heap.size ≠ g_c) := Lib.hid (by omega)
  have M_c_p : Hid (g_c ≠ w.heap.size) := Lib.hid (by omega)
  clear hl_p
  have L_c : Hid (w.heap.size ≤ g_c) := Lib.hid (by omega)
  clear hg_c hlB
  obtain ⟨p_0, p_1, p_2, p_3, p_f0, p_f1, p_f2, p_f3⟩ := box4 H_p.out
  have z_p := lt_of_heap H_p.out
  go_wp2_with (first | (refine wpList_load_row rfl 42 (.tmp 5) rfl g_c rfl 42 shC.arr (0, 0) _ H_c.out undRun rfl infoRun ?_))
  refine (fstepC_any w1.heap.size p b g q 128 192 (newS ⟨2, 1, 0, 64⟩) (newWs 2 0 64) 2 1 0 64 8 shC _ shPlan HF.out rfl (by decide) rfl rfl rfl rfl rfl).mono ?_
  rintro r w4 ⟨rfl, hF, hK⟩
  rw [sh1] at hF ⊢
  have hq : NewQ w3 q q := NewQ.refl
  clear p_0 p_1 p_2 p_3 p_f0 p_f1 p_f2 p_f3 z_p
  have hl_p := lt_of_heap H_p.out
  have hn_p := N_p.out
  replace H_p := Lib.hid (hK.row H_p.out hn_p.1)
  replace N_p : Hid (w.heap.size ∉ FsT b g q ∧ w.heap.size ≠ p) := Lib.hid ⟨notin_new hn_p.1 hl_p hq, hn_p.2⟩
  clear hl_p hn_p
  have hl_c := lt_of_heap H_c.out
  have hn_c := N_c.out
  replace H_c := Lib.hid (hK.row H_c.out hn_c.1)
  replace N_c : Hid (g_c ∉ FsT b g q ∧ g_c ≠ p) := Lib.hid ⟨notin_new hn_c.1 hl_c hq, hn_c.2⟩
  clear hl_c hn_c
  replace B := Lib.hid (Keep.under B.out hK (by have := B.out.size; omega) (fun j hj => Nat.le_trans Hl.out (HF.out.ges j hj).1))
  replace HF := Lib.hid hF
  clear hF hq hK
  go_upto_region 7 with (first | (refine wpList_store_row rfl 42 (.tmp 6) (.tmp 35) rfl w4.heap.size (toldR shC 0 1 noS).arr rfl rfl 42 ZRun (row_new _ _ _) infoRun rfl (Rn.one _) ?_; (try simp only [Act.put]); (try simp only [List.setIfInBounds_toArray]); (try simp only [List.set_cons_succ]); (try simp only [List.set_cons_zero])))
  refine alloc_set' w4 _ _ _ ?_
  intro w5 hr hb
  have hlB := B.out.size
  have hfr := HF.out.fresh (Nat.le_refl w4.heap.size)
  have hlp := HF.out.lt.1
  have hl_p := lt_of_heap H_p.out
  have hl_c := lt_of_heap H_c.out
  replace HF := Lib.hid (HF.out.below hb)
  have hsz := (hb).size
  replace H_p := Lib.hid (row_below H_p.out hb)
  replace H_c := Lib.hid (row_below H_c.out hb)
  replace B := Lib.hid (below_only B.out hb)
  clear hb hsz
  have H_x := Lib.hid (show w5.heap[w4.heap.size]? = some (.cells (toldR shC 0 1 noS).arr 42 (0, 0)) from hr)
  clear hr
  obtain ⟨g_x, hg_x⟩ : ∃ x, x = w4.heap.size := ⟨_, rfl⟩
  rw [← hg_x] at H_x ⊢
  have N_x : Hid (g_x ∉ FsT b g q ∧ g_x ≠ p) := Lib.hid ⟨by rw [hg_x]; exact hfr, by omega⟩
  clear hfr hlp
  have M_p_x : Hid (w.heap.size ≠ g_x) := Lib.hid (by omega)
  have M_x_p : Hid (g_x ≠ w.heap.size) := Lib.hid (by omega)
  clear hl_p
  have M_c_x : Hid (g_c ≠ g_x) := Lib.hid (by omega)
  have M_x_c : Hid (g_x ≠ g_c) := Lib.hid (by omega)
  clear hl_c
  have L_x : Hid (w.heap.size ≤ g_x) := Lib.hid (by omega)
  clear hg_x hlB
  obtain ⟨p_0, p_1, p_2, p_3, p_f0, p_f1, p_f2, p_f3⟩ := box4 H_p.out
  have z_p := lt_of_heap H_p.out
  go_wp2_with (first | (refine wpList_load_row rfl 42 (.tmp 5) rfl g_c rfl 42 shC.arr (0, 0) _ H_c.out undRun rfl infoRun ?_))
  refine (fstepC_any w1.heap.size p b g q 128 192 shS1 (createW 8 (newS ⟨2, 1, 0, 64⟩) (newWs 2 0 64)) 2 1 0 64 8 shC _ shPlan HF.out rfl (by decide) rfl rfl rfl rfl rfl).mono ?_
  rintro r w6 ⟨rfl, hF, hK⟩
  rw [sh2] at hF ⊢
  have hq : NewQ w5 q q := NewQ.refl
  clear p_0 p_1 p_2 p_3 p_f0 p_f1 p_f2 p_f3 z_p
  have hl_p := lt_of_heap H_p.out
  have hn_p := N_p.out
  replace H_p := Lib.hid (hK.row H_p.out hn_p.1)
  replace N_p : Hid (w.heap.size ∉ FsT b g q ∧ w.heap.size ≠ p) := Lib.hid ⟨notin_new hn_p.1 hl_p hq, hn_p.2⟩
  clear hl_p hn_p
  have hl_c := lt_of_heap H_c.out
  have hn_c := N_c.out
  replace H_c := Lib.hid (hK.row H_c.out hn_c.1)
  replace N_c : Hid (g_c ∉ FsT b g q ∧ g_c ≠ p) := Lib.hid ⟨notin_new hn_c.1 hl_c hq, hn_c.2⟩
  clear hl_c hn_c
  have hl_x := lt_of_heap H_x.out
  have hn_x := N_x.out
  replace H_x := Lib.hid (hK.row H_x.out hn_x.1)
  replace N_x : Hid (g_x ∉ FsT b g q ∧ g_x ≠ p) := Lib.hid ⟨notin_new hn_x.1 hl_x hq, hn_x.2⟩
  clear hl_x hn_x
  replace B := Lib.hid (Keep.under B.out hK (by have := B.out.size; omega) (fun j hj => Nat.le_trans Hl.out (HF.out.ges j hj).1))
  replace HF := Lib.hid hF
  clear hF hq hK
  go_upto_region 8 with (first | (refine wpList_store_row rfl 42 (.tmp 8) (.tmp 43) rfl w6.heap.size (toldR shC 13 0 noS).arr rfl rfl 42 ZRun (row_new _ _ _) infoRun rfl (Rn.one _) ?_; (try simp only [Act.put]); (try simp only [List.setIfInBounds_toArray]); (try simp only [List.set_cons_succ]); (try simp only [List.set_cons_zero])))
  refine alloc_set' w6 _ _ _ ?_
  intro w7 hr hb
  have hlB := B.out.size
  have hfr := HF.out.fresh (Nat.le_refl w6.heap.size)
  have hlp := HF.out.lt.1
  have hl_p := lt_of_heap H_p.out
  have hl_c := lt_of_heap H_c.out
  have hl_x := lt_of_heap H_x.out
  replace HF := Lib.hid (HF.out.below hb)
  have hsz := (hb).size
  replace H_p := Lib.hid (row_below H_p.out hb)
  replace H_c := Lib.hid (row_below H_c.out hb)
  replace H_x := Lib.hid (row_below H_x.out hb)
  replace B := Lib.hid (below_only B.out hb)
  clear hb hsz
  have H_y := Lib.hid (show w7.heap[w6.heap.size]? = some (.cells (toldR shC 13 0 noS).arr 42 (0, 0)) from hr)
  clear hr
  obtain ⟨g_y, hg_y⟩ : ∃ x, x = w6.heap.size := ⟨_, rfl⟩
  rw [← hg_y] at H_y ⊢
  have N_y : Hid (g_y ∉ FsT b g q ∧ g_y ≠ p) := Lib.hid ⟨by rw [hg_y]; exact hfr, by omega⟩
  clear hfr hlp
  have M_p_y : Hid (w.heap.size ≠ g_y) := Lib.hid (by omega)
  have M_y_p : Hid (g_y ≠ w.heap.size) := Lib.hid (by omega)
  clear hl_p
  have M_c_y : Hid (g_c ≠ g_y) := Lib.hid (by omega)
  have M_y_c : Hid (g_y ≠ g_c) := Lib.hid (by omega)
  clear hl_c
  have M_x_y : Hid (g_x ≠ g_y) := Lib.hid (by omega)
  have M_y_x : Hid (g_y ≠ g_x) := Lib.hid (by omega)
  clear hl_x
  have L_y : Hid (w.heap.size ≤ g_y) := Lib.hid (by omega)
  clear hg_y hlB
  have x21 : w7.cell? ⟨g_x, 21, none⟩ = some (.bool true) := by rw [row_cell H_x.out]; rfl
  have x24 : w7.cell? ⟨g_x, 24, none⟩ = some (.int .i64 1) := by rw [row_cell H_x.out]; rfl
  have y23 : w7.cell? ⟨g_y, 23, none⟩ = some (.int .i64 13) := by rw [row_cell H_y.out]; rfl
  have zx := lt_of_heap H_x.out
  have zy := lt_of_heap H_y.out
  have B2 := B.out
  clear B
  go_wp2_with fail
  go_ret
  exact ⟨by first | rfl | simp, B2⟩

end Go.Proofs.Ythedndejlfkknaa
