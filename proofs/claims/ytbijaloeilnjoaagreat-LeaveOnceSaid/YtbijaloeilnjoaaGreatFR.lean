/- Layer 14: the walks of its statements' own functions: begun, steps, shown; and what a new arena is. Layer 14: what is refused; a call that is begun, stepped; calls that are the same. -/
import Derived.Test.YtbijaloeilnjoaaGreatFStep
import Derived.Test.YtbijaloeilnjoaaGreatBRefC
import Derived.Deep.Cut
import Derived.Deep.CutRange
import Derived.Deep.CutBlock
import Derived.Test.YtbijaloeilnjoaaGreatSame
namespace Go.Proofs.YtbijaloeilnjoaaGreat
open Go.RowKit
set_option linter.unusedVariables false
set_option linter.unusedSimpArgs false

theorem set_row' {P : World → Prop} (W : World) (g : Nat) (cs cs' : Array Value) (t : TypeId) (h : W.heap[g]? = some (.cells cs t (0, 0)))
  (K : ∀ Y, Y.heap[g]? = some (.cells cs' t (0, 0)) → Keep [g] W Y → P Y) : P (W.setRow g cs') :=
 K _ (setRow_heap _ _ _ _ _ _ h) ((Keep.refl [g] W).setRow (g := g) (.inl (by simp)) cs')
theorem alloc_set' {P : World → Prop} (w : World) (c c' : Array Value) (t : TypeId) (h : ∀ W, W.heap[w.heap.size]? = some (.cells c' t (0, 0)) → Below w.heap.size w W → P W) : P ((w.alloc (.cells c t)).setRow w.heap.size c') :=
 h _ (setRow_heap _ _ _ _ _ _ (row_new _ _ _)) (below_setRow ((Below.refl _ _).alloc (Nat.le_refl _) _) (Nat.le_refl _) _)
theorem infoCal7 : (Tryz.prog.info? 35).map (·.size) = some 7 := by kernel_rfl
/-- a new arena's scopes -/
theorem fs_new {B : Nat} {w : World} {p b g : Nat} {q : Option Nat} {s t i h : Int} (H : PlanOk s t i h) (hA : Arn w p b (newWs s i h)) (hG : Gr B w g (64 * s + i) (64 * s + i + h) (oneExt (64 * s + i) h) q) (hl : B ≤ p ∧ B ≤ b) (hn : g ≠ p ∧ g ≠ b ∧ ∀ j, q = some j → j ≠ p ∧ j ≠ b) :
  Fs B w p b g q (64 * s + i) (64 * s + i + h) (newS ⟨s, t, i, h⟩) (newWs s i h) := by
 have hlen : (newS ⟨s, t, i, h⟩).l.length = s.toNat := by have := H.s0; simp [newS]; omega
 have hs0 := H.s0
 have hs1 := H.s1
 have hi0 := H.i0
 have hi1 := H.i1
 refine ⟨hA, ?_, wsS_new H, ?_, ?_, by omega, by omega, hl, hn⟩
 ·simp only [newS]
  rw [Int.mul_comm s 64]
  exact hG
 ·intro x hx
  simp only [newS, List.mem_cons, List.mem_replicate] at hx
  rcases hx with rfl | ⟨_, rfl⟩
  ·exact ⟨immC_right, by simp only; omega, by simp only; omega⟩
  ·exact ⟨by decide, by decide, by decide⟩
 ·intro x hx
  simp only [newS, List.mem_cons, List.mem_replicate] at hx
  rcases hx with rfl | ⟨_, rfl⟩
  ·simp only; omega
  ·simp only [scFree]; omega
/-- the call that is begun -/
def begA (mk : Bool) (n : Int) : Int := if mk then 1 + n % 512 else 1 + n % 8
def begR (s : Int) (mk : Bool) (n : Int) (ch : Sl) : Rn := rbeginRn s [] ⟨if mk then 2 else 3, 0, 0, 0, begA mk n, 0, 0⟩ 0 0 ch
theorem begR_make (s n : Int) (ch : Sl) : begR s true n ch = ⟨⟨2, 0, 0, 0, 1 + n % 512, 0, 0⟩, 1, 0, 0, 0, ch, 0, 0, 0, 0, noS, 0, noS, 0, false, false, false, 0, 0, noS⟩ := by
 have h : inB (1 + n % 512) 1 8192 = true := inB_t (by omega)
 unfold begR rbeginRn begA
 simp [beginS, h]
 rfl

/-- what an op makes of scopes, of words; the call behind it; whether it is done -/
def does14 (f e : Int) (mk : Bool) (n : Int) (S : Sco) : Sco := if mk then (createS (begA mk n) S).2 else (destroyS f e (begA mk n) S).2
def words14 (mk : Bool) (n : Int) (S : Sco) (ws : List Int) : List Int := if mk then createW (begA mk n) S ws else if inS (begA mk n) 1 S = true then destroyW (begA mk n) S ws else ws
def run14 (f e s : Int) (mk : Bool) (n : Int) (S : Sco) (ch : Sl) : Rn :=
 if mk then toldR (begR s mk n ch) (createS (begA mk n) S).1.2 (createS (begA mk n) S).1.1 noS
 else if inS (begA mk n) 1 S = true then toldR (begR s mk n ch) (destroyS f e (begA mk n) S).1 0 noS
 else begR s mk n ch
theorem begA_in (n : Int) : inB (begA true n) 1 8192 = true := inB_t (by unfold begA; simp; omega)


end Go.Proofs.YtbijaloeilnjoaaGreat

namespace Go.Proofs.YtbijaloeilnjoaaGreat
open Go.RowKit
set_option linter.unusedVariables false
set_option linter.unusedSimpArgs false





/-- a call that is begun, stepped -/
theorem fstep14_any (B p b g : Nat) (q : Option Nat) (f e : Int) (S : Sco) (ws : List Int) (s t i h : Int) (mk : Bool) (n : Int) (ch : Sl) (w : World) (H : PlanOk s t i h) (hF : Fs B w p b g q f e S ws) (hS : (S.l.length : Int) = s) (hmk : mk = true) :
  Calls Tryz.prog 34 #[.agg #[.int .i64 s, .int .i64 t, .int .i64 i, .int .i64 h], .pointer (some ⟨p, 0, none⟩), .pointer (some ⟨g, 0, none⟩), (begR s mk n ch).v] w fun y w' => ∃ q', y = .returned (.tuple #[(run14 f e s mk n S ch).v, .int .i64 0]) ∧ Fs B w' p b g q' f e (does14 f e mk n S) (words14 mk n S ws) ∧ NewQ w q q' ∧ Keep (FsT b g q) w w' := by
 subst hmk
 refine (fstepC_any B p b g q f e S ws s t i h (begA true n) _ w H hF hS (begA_in n) (by rw [begR_make]) (by rw [begR_make]) (by rw [begR_make]) (by rw [begR_make]) (by rw [begR_make]; simp [begA])).mono ?_
 rintro y w' ⟨rfl, h1, h2⟩
 exact ⟨q, rfl, h1, NewQ.refl, h2⟩

end Go.Proofs.YtbijaloeilnjoaaGreat
