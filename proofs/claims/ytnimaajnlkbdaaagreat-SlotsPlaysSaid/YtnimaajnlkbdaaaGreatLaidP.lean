/- Layer 16 in plain terms: what 'laid' lays: four scopes, nine objects. -/
import Derived.Test.YtnimaajnlkbdaaaGreatFour
import Derived.Test.YtnimaajnlkbdaaaGreatTwo
import Derived.Test.YtnimaajnlkbdaaaGreatRTake
import Derived.Test.YtnimaajnlkbdaaaGreatRFs
import Derived.Test.YtnimaajnlkbdaaaGreatFRest
namespace Go.Proofs.YtnimaajnlkbdaaaGreat
open Go.RowKit
set_option linter.unusedVariables false
set_option linter.unusedSimpArgs false

theorem WsS.ctl {ws : List Int} {S : Sco} (h : WsS ws S) {k : Nat} {s : Sc} (hk : S.l[k]? = some s) (c : Ctl) : WsS (ws.set (8 * k) (word c)) ⟨S.l.set k ⟨c, s.x⟩, S.F⟩ := by
  have hl := (List.getElem?_eq_some_iff.1 hk).1
  have h8 := h.lt hl
  refine ⟨fun j y hj => ?_, by simpa using h.len⟩
  simp only at hj
  by_cases e : j = k
  · subst e
    rw [List.getElem?_set, if_pos rfl, if_pos hl] at hj
    injection hj with hj
    subst hj
    obtain ⟨h1, h2, h3⟩ := h.blk j s hk
    refine ⟨?_, ?_, ?_⟩
    · rw [List.getElem?_set, if_pos rfl, if_pos (by omega)]
    · rw [List.getElem?_set, if_neg (by omega)]; exact h2
    · rw [List.getElem?_set, if_neg (by omega)]; exact h3
  · rw [List.getElem?_set, if_neg (fun x => e x.symm)] at hj
    obtain ⟨h1, h2, h3⟩ := h.blk j y hj
    refine ⟨?_, ?_, ?_⟩
    · rw [List.getElem?_set, if_neg (by omega)]; exact h1
    · rw [List.getElem?_set, if_neg (by omega)]; exact h2
    · rw [List.getElem?_set, if_neg (by omega)]; exact h3
theorem setL_all {l : List Sc} {k : Nat} {s : Sc} {c : Ctl} {Q : Sc → Prop} (hk : l[k]? = some s) (h : ∀ x ∈ l, Q x) (hq : Q s → Q ⟨c, s.x⟩) : ∀ x ∈ l.set k ⟨c, s.x⟩, Q x := by
  intro x hx
  rcases List.mem_or_eq_of_mem_set hx with h1 | h1
  · exact h x h1
  · rw [h1]; exact hq (h s (List.mem_of_getElem? hk))
section
variable {B : Nat} {w w' : World} {p b g : Nat} {q : Option Nat} {f e : Int} {S : Sco} {ws : List Int}
/-- a control word is put -/
theorem Fs.ctl (h : Fs B w p b g q f e S ws) {k : Nat} {s : Sc} {c : Ctl} (hk : S.l[k]? = some s) (hc : Right c) (hA : Arn w' p b (ws.set (8 * k) (word c))) (kp : Keep [b] w w') : Fs B w' p b g q f e ⟨S.l.set k ⟨c, s.x⟩, S.F⟩ (ws.set (8 * k) (word c)) :=
  { a := hA, gr := h.gr.kept kp (by simpa using h.ne.2.1) (fun i hi => by simpa using (h.ne.2.2 i hi).2), s := h.s.ctl hk c,
    ok := setL_all hk h.ok (fun x => ⟨hc, x.x0, x.x1⟩), sz := setL_all (Q := fun x => 0 ≤ x.x.2 ∧ x.x.2 ≤ 131072) hk h.sz (fun x => x), n1 := by simpa using h.n1, n8 := by simpa using h.n8, low := h.low, ne := h.ne }
end
section
variable {B : Nat} {w w' : World} {X q b gp gq : Nat} {s t i h f e : Int} {S : Sco} {ws : List Int}
theorem RFs.ctl (H : RFs B w X q b gp gq s t i h f e S ws) {k : Nat} {z : Sc} {c : Ctl} (hk : S.l[k]? = some z) (hc : Right c) (hA : RAll w' X q b s t i h (ws.set (8 * k) (word c))) (kp : Keep [b] w w') : RFs B w' X q b gp gq s t i h f e ⟨S.l.set k ⟨c, z.x⟩, S.F⟩ (ws.set (8 * k) (word c)) :=
  ⟨hA, kp.row H.box (by simpa using H.all.ne), H.rg.imp (fun _ h => ⟨h.1.kept kp (by simpa using H.ne.2.2.2) (by simpa using H.ne.2.1), h.2⟩), H.s.ctl hk c,
    setL_all hk H.ok (fun x => ⟨hc, x.x0, x.x1⟩), setL_all (Q := fun x => 0 ≤ x.x.2 ∧ x.x.2 ≤ 131072) hk H.sz (fun x => x), by simpa using H.n1, by simpa using H.n8, H.f0, H.e1, H.low, H.ne⟩
end

/-- the scopes' control words -/
def c16 (k : Nat) : Ctl := if k = 0 then immC else ⟨2, 1, if k = 2 then 1 else 0, 5 * k⟩
/-- the scopes when k are made, and the words -/
def lS : Nat → Sco
  | 0 => newS ⟨4, 2, 128, 512⟩
  | k + 1 => ⟨(createS 128 (lS k)).2.l.set (k + 1) ⟨c16 (k + 1), (384 + 128 * (k : Int), 128)⟩, (createS 128 (lS k)).2.F⟩
def lW : Nat → List Int
  | 0 => newWs 4 128 512
  | k + 1 => (createW 128 (lS k) (lW k)).set (8 * (k + 1)) (word (c16 (k + 1)))
theorem c16_right (k : Nat) (hk : k < 4) : Right (c16 k) := by
  obtain rfl | rfl | rfl | rfl : k = 0 ∨ k = 1 ∨ k = 2 ∨ k = 3 := by omega
  all_goals decide
set_option maxRecDepth 100000 in
theorem laid_new (k : Nat) (hk : k < 3) : (createS 128 (lS k)).2.l[k + 1]? = some ⟨⟨1, 0, -1, 0⟩, (384 + 128 * (k : Int), 128)⟩ ∧ (lS k).l.length = 4 ∧ (∃ z, (lS k).l[0]? = some z ∧ z.c.st = 2) ∧ (∃ z, (createW 128 (lS k) (lW k))[8 * (k + 1)]? = some z) ∧ pack (c16 (k + 1)) = (word (c16 (k + 1)), 0) := by
  obtain rfl | rfl | rfl : k = 0 ∨ k = 1 ∨ k = 2 := by omega
  · exact ⟨by kernel_rfl, by kernel_rfl, ⟨⟨immC, (256, 128)⟩, by kernel_rfl, by kernel_rfl⟩, ⟨word ⟨1, 0, -1, 0⟩, by kernel_rfl⟩, pack_right (c16_right _ (by decide))⟩
  · exact ⟨by kernel_rfl, by kernel_rfl, ⟨⟨immC, (256, 128)⟩, by kernel_rfl, by kernel_rfl⟩, ⟨word ⟨1, 0, -1, 0⟩, by kernel_rfl⟩, pack_right (c16_right _ (by decide))⟩
  · exact ⟨by kernel_rfl, by kernel_rfl, ⟨⟨immC, (256, 128)⟩, by kernel_rfl, by kernel_rfl⟩, ⟨word ⟨1, 0, -1, 0⟩, by kernel_rfl⟩, pack_right (c16_right _ (by decide))⟩

/-- an allocation of two slots, as it begins -/
def al16 (s : Nat) : Rn := ⟨⟨7, 0, 0, 0, 2, 0, 0⟩, 5, (s : Int), 0, 0, noS, 0, 0, 0, 0, noS, 0, noS, 0, false, false, false, 0, 0, noS⟩
abbrev ba16 (s : Nat) : Int := 256 + 128 * (s : Int)
/-- the words when i objects are -/
def oW : Nat → List Int
  | 0 => lW 3
  | i + 1 => stepsW (oW i) (i / 3) (c16 (i / 3)) (ba16 (i / 3)) 128 (32 * ((i % 3 : Nat) : Int)) (al16 (i / 3)) 4
/-- the handles -/
def hV (i : Nat) : Int := hdl ((i / 3 : Nat) : Int) (5 * ((i / 3 : Nat) : Int)) (32 + 16 * ((i / 3 : Nat) : Int) + 4 * ((i % 3 : Nat) : Int))
theorem al16_run (s : Nat) (c : Ctl) (ba : Int) : TkRun s c ba 128 noS (al16 s) :=
  ⟨rfl, ⟨by show (0:Int) ≤ 2; decide, by show (2:Int) ≤ 6; decide⟩, ⟨by show (0:Int) ≤ 0; decide, by show (0:Int) ≤ 512; decide⟩, ⟨by show (0:Int) ≤ 0; decide, by show (0:Int) ≤ 7; decide⟩, rfl, rfl, rfl, rfl, rfl, .inl rfl, fun h => absurd rfl h, fun h => (by rcases h with h | h <;> cases h), fun h => (by cases h)⟩
set_option maxRecDepth 100000 in
theorem blk16 (i : Nat) (hi : i < 9) : BlkOk 4 (oW i) (i / 3) (c16 (i / 3)) (ba16 (i / 3)) 128 (32 * ((i % 3 : Nat) : Int)) := by
  have hl : (oW i).length = 112 := by
    obtain rfl | rfl | rfl | rfl | rfl | rfl | rfl | rfl | rfl : i = 0 ∨ i = 1 ∨ i = 2 ∨ i = 3 ∨ i = 4 ∨ i = 5 ∨ i = 6 ∨ i = 7 ∨ i = 8 := by omega
    all_goals kernel_rfl
  have hba : ba16 (i / 3) = 256 + 128 * ((i / 3 : Nat) : Int) := rfl
  refine ⟨⟨?_, ?_, ?_, ?_, c16_right _ (by omega)⟩, by omega, by decide, by omega, by omega, by omega, by omega, by omega, by omega, by omega⟩
  all_goals
    obtain rfl | rfl | rfl | rfl | rfl | rfl | rfl | rfl | rfl : i = 0 ∨ i = 1 ∨ i = 2 ∨ i = 3 ∨ i = 4 ∨ i = 5 ∨ i = 6 ∨ i = 7 ∨ i = 8 := by omega
    all_goals kernel_rfl
set_option maxRecDepth 100000 in
theorem hV_told (i : Nat) (hi : i < 9) : (stepsR (c16 (i / 3)) (ba16 (i / 3)) 128 (32 * ((i % 3 : Nat) : Int)) (al16 (i / 3)) 4).an = hV i ∧ 0 ≤ hV i ∧ hV i ≤ 9223372036854775807 := by
  refine ⟨?_, ?_, ?_⟩
  · obtain rfl | rfl | rfl | rfl | rfl | rfl | rfl | rfl | rfl : i = 0 ∨ i = 1 ∨ i = 2 ∨ i = 3 ∨ i = 4 ∨ i = 5 ∨ i = 6 ∨ i = 7 ∨ i = 8 := by omega
    all_goals kernel_rfl
  · unfold hV hdl; omega
  · unfold hV hdl; omega
/-- the handles that are told: the first n -/
def hC (i : Nat) : Int := if i < 9 then hV i else if i = 9 then hV 3 + 4294967296 else if i = 10 then hV 4 + 1 else 0
def hAt (n : Nat) : Array Value := ((List.range 12).map fun j => Value.int .u64 (if j < n then hC j else 0)).toArray
theorem hAt_size (n : Nat) : (hAt n).size = 12 := by unfold hAt; simp
theorem hAt_get (n : Nat) {j : Nat} (hj : j < 12) : (hAt n)[j]? = some (.int .u64 (if j < n then hC j else 0)) := by
  unfold hAt
  rw [List.getElem?_toArray, List.getElem?_map, List.getElem?_range hj]
  rfl
theorem hAt_set {e : Nat} (he : e < 12) {x : Int} (hx : x = hC e) : (hAt e).setIfInBounds e (.int .u64 x) = hAt (e + 1) := by
  subst hx
  apply Array.ext_getElem?
  intro i
  by_cases hi : i < 12
  · rw [hAt_get _ hi]
    by_cases e1 : e = i
    · subst e1
      rw [Array.getElem?_setIfInBounds_self_of_lt (by rw [hAt_size]; exact he), if_pos (by omega)]
    · rw [Array.getElem?_setIfInBounds_ne e1, hAt_get _ hi]
      congr 2
      by_cases h : i < e
      · rw [if_pos h, if_pos (by omega)]
      · rw [if_neg h, if_neg (by omega)]
  · rw [Array.getElem?_eq_none (by simp [hAt_size]; omega), Array.getElem?_eq_none (by rw [hAt_size]; omega)]
theorem hAt_one (n : Nat) : (hAt n).all (·.oneCell') = true := by
  rw [Array.all_eq_true_iff_forall_mem]
  intro v hv
  unfold hAt at hv
  rw [List.mem_toArray] at hv
  obtain ⟨j, _, rfl⟩ := List.mem_map.1 hv
  rfl
theorem hAt_end : hAt 11 = hAt 12 := by
  apply Array.ext_getElem?
  intro i
  by_cases hi : i < 12
  · rw [hAt_get _ hi, hAt_get _ hi, if_pos hi]
    by_cases h : i < 11
    · rw [if_pos h]
    · rw [if_neg h]
      obtain rfl : i = 11 := by omega
      rfl
  · rw [Array.getElem?_eq_none (by rw [hAt_size]; omega), Array.getElem?_eq_none (by rw [hAt_size]; omega)]
/-- the program's words while they are taken over -/
def mixW (n : Nat) : List Int := (oW 9).take n ++ (lW 3).drop n
set_option maxRecDepth 100000 in
theorem oW_len : (oW 9).length = 112 := by kernel_rfl
set_option maxRecDepth 100000 in
theorem lW_len : (lW 3).length = 112 := by kernel_rfl
theorem mixW_len (n : Nat) (hn : n ≤ 112) : (mixW n).length = 112 := by
  unfold mixW
  simp [oW_len, lW_len]
  omega
theorem mixW_set {n : Nat} (hn : n < 112) {x : Int} (hx : (oW 9)[n]? = some x) : (mixW n).set n x = mixW (n + 1) := by
  apply List.ext_getElem?
  intro i
  have h1 := oW_len; have h2 := lW_len
  unfold mixW
  rw [List.getElem?_set]
  by_cases e : n = i
  · subst e
    rw [if_pos rfl, if_pos (by simp [h1, h2]; omega), List.getElem?_append_left (by simp; omega), List.getElem?_take, if_pos (by omega), hx]
  · rw [if_neg e]
    by_cases h : i < n
    · rw [List.getElem?_append_left (by simp; omega), List.getElem?_append_left (by simp; omega), List.getElem?_take, List.getElem?_take, if_pos h, if_pos (by omega)]
    · rw [List.getElem?_append_right (by simp; omega), List.getElem?_append_right (by simp; omega), List.getElem?_drop, List.getElem?_drop]
      congr 1
      simp [h1]
      omega
theorem mixW_zero : mixW 0 = lW 3 := by unfold mixW; simp
theorem mixW_all : mixW 112 = oW 9 := by
  unfold mixW
  rw [List.drop_of_length_le (by rw [lW_len]; omega), List.take_of_length_le (by rw [oW_len]; omega)]
  simp
end Go.Proofs.YtnimaajnlkbdaaaGreat
