/- Layer 14: the model's answer to a begun call; answers that are the same. (Printed by gen_law14m.py.) -/
import Derived.Test.YthedndejlfkknaaRM
namespace Go.Proofs.Ythedndejlfkknaa
open Go.RowKit
set_option linter.unusedVariables false
set_option linter.unusedSimpArgs false


def told14 (f e : Int) (mk : Bool) (n : Int) (S : Sco) : Int × Int := if mk then ((createS (begA mk n) S).1.2, (createS (begA mk n) S).1.1) else ((destroyS f e (begA mk n) S).1, 0)
theorem begR_cal (s : Int) (mk : Bool) (n : Int) (ch : Sl) : (begR s mk n ch).c = ⟨if mk then 2 else 3, 0, 0, 0, begA mk n, 0, 0⟩ := by
  cases mk with
  | true => rw [begR_make]; simp [begA]
  | false =>
    cases hin : inB (1 + n % 8) 1 (s - 1) with
    | true => rw [begR_gone hin]; simp [begA]
    | false => rw [begR_none hin]; simp [begA]
theorem run14_told {f e s : Int} {mk : Bool} {n : Int} {S : Sco} {ch : Sl} (hd : done14 mk n S = true) : (run14 f e s mk n S ch).code = (told14 f e mk n S).1 ∧ (run14 f e s mk n S ch).an = (told14 f e mk n S).2 ∧ (run14 f e s mk n S ch).asaid = noS ∧ (run14 f e s mk n S ch).done = true ∧ (run14 f e s mk n S ch).point = true := by
  unfold run14 told14
  cases mk with
  | true => exact ⟨rfl, rfl, rfl, rfl, rfl⟩
  | false =>
    have hinA : inS (begA false n) 1 S = true := hd
    rw [if_neg (by simp), if_pos hinA, if_neg (by simp)]
    exact ⟨rfl, rfl, rfl, rfl, rfl⟩
theorem no14_told {f e s : Int} {mk : Bool} {n : Int} {S : Sco} {ch : Sl} (hd : done14 mk n S = false) (hS : (S.l.length : Int) = s) : (begR s mk n ch).code = 11 ∧ told14 f e mk n S = (11, 0) ∧ does14 f e mk n S = S := by
  unfold done14 at hd
  cases mk with
  | true => simp at hd
  | false =>
    have hinA : inS (begA false n) 1 S = false := hd
    have hin : inB (1 + n % 8) 1 (s - 1) = false := by unfold inS begA at hinA; rw [hS] at hinA; exact hinA
    refine ⟨by rw [begR_none hin], ?_, ?_⟩
    · unfold told14
      rw [if_neg (by simp), destroyS_out hinA]
    · unfold does14
      rw [if_neg (by simp), destroyS_out hinA]
theorem begA_bd (mk : Bool) (n : Int) : 1 ≤ begA mk n ∧ begA mk n ≤ 512 := by unfold begA; cases mk <;> simp <;> omega
theorem rdo14_any (B M : Nat) (PK : Pk) (f e s : Int) (S : Sco) (mk : Bool) (n : Int) (cl : Cal) (w : World) (H : RM B w M PK f e S) (h0 : ∃ z, S.l[0]? = some z ∧ z.c.st = 2) (hcl : (⟨if mk then 2 else 3, 0, 0, 0, begA mk n, 0, 0⟩ : Cal) = cl) :
    Calls Try.prog 14 #[.pointer (some ⟨M, 0, none⟩), .int .i64 0, cl.vl] w fun r w' => r = .returned (.agg (ansA (told14 f e mk n S).1 (told14 f e mk n S).2)) ∧ RM B w' M PK f e (does14 f e mk n S) ∧ Keep (RT PK.bc PK.bx PK.gq) w w' := by
  subst hcl
  have ha := begA_bd mk n
  unfold told14 does14
  cases mk with
  | true =>
    refine (rdoC_any B M PK f e S (begA true n) w H (by omega) (fun s hs => by obtain ⟨z, h1, h2⟩ := h0; rw [h1] at hs; injection hs with hs; subst hs; omega)).mono ?_
    rintro r w' ⟨rfl, h2, h3⟩
    exact ⟨rfl, h2, h3⟩
  | false =>
    refine (rdoD_any B M PK f e S (begA false n) w H (by omega)).mono ?_
    rintro r w' ⟨rfl, h2, h3⟩
    exact ⟨rfl, h2, h3⟩

set_option maxRecDepth 100000 in
set_option maxHeartbeats 4000000 in
theorem rsame12_any (c n : Int) (w : World) : Calls Try.prog 16 #[.agg (ansA c n), .agg (ansA c n)] w fun r w' => r = .returned (.bool true) ∧ Below w.heap.size w w' := by
  go_enter Try.func16, Try.ntmps16
  go_upto_region 1 with fail
  refine two_rows' w _ _ _ _ ?_
  intro W hR hQ hB
  obtain ⟨x0, x1, x2, _, _, _⟩ := box3 hR
  obtain ⟨y0, y1, y2, _, _, _⟩ := box3 hQ
  have zx := lt_of_heap hR
  have zy := lt_of_heap hQ
  have HB := Lib.hid hB
  clear hR hQ hB
  go_wp2
  go_loopw [5] (fun t wz => t = .int .i64 0 ∧ wz = W) (fun t _ => 0)
  case atStart => exact ⟨rfl, rfl⟩
  case round =>
    obtain ⟨rfl, rfl⟩ := hrel
    go_wp2
    go_ret
    exact ⟨rfl, HB.out⟩

end Go.Proofs.Ythedndejlfkknaa
