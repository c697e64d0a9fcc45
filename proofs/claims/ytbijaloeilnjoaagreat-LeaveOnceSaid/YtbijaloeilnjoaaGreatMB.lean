/- The walks of package chain's readers (Area, at, Reach, Parent, Above) and of slices.Index at entries. The walks of slices.Clone at entries, chain.Push and chain.Pop. The walks of the reference for chains: Area, Reach, Parent, Above, Push, Pop, Same. The walks of the reference's Push, Pop and Same for chains, and of the law's 'few'. -/
import Derived.Test.YtbijaloeilnjoaaGreatMA
import Derived.Deep.RegionHeld3
namespace Go.Proofs.YtbijaloeilnjoaaGreat
open Go.RowKit

@[go_sem] theorem eqgEnt : Tryz.prog.eqGuardType Tryz.prog.depth 97 = false := by kernel_rfl
theorem stoodEnt : Tryz.prog.stoodInHeld 97 = false := by kernel_rfl
theorem undEnt : Tryz.prog.underlying 97 = some (.struct (Tryz.prog.fieldsOf 97)) := by kernel_rfl
theorem intEql (d : Nat) (s s' : Int) (w : World) : (Op.equalIn (d + 1) 3 (.int .i64 s) (.int .i64 s')).run Tryz.prog w = .ok (s == s') w := run_equalIn_int w d _ _ _ _ _ Tryz.underlying3
theorem boolEql (d : Nat) (s s' : Bool) (w : World) : (Op.equalIn (d + 1) 4 (.bool s) (.bool s')).run Tryz.prog w = .ok (s == s') w := run_equalIn_bool' w d _ _ _ Tryz.underlying4

@[go_sem high] theorem eqlEnt (w : World) (s s' : Int) (x x' : Bool) : (binOp .eql 97 (.agg #[.int .i64 s, .bool x]) (.agg #[.int .i64 s', .bool x'])).run Tryz.prog w = .ok (.bool (s == s' && x == x')) w := by
 rw [run_eql_struct, run_equalIn_agg _ _ _ _ _ undEnt stoodEnt]
 simp [Op.eqFields, go_sem, intEql, boolEql]
 by_cases h : s = s' <;> by_cases h' : x = x' <;> simp [h, h']

end Go.Proofs.YtbijaloeilnjoaaGreat

namespace Go.Proofs.YtbijaloeilnjoaaGreat
open Go.RowKit

theorem infoEnt : (Tryz.prog.info? 97).map (fun i => (i.zero, i.size, i.bytes)) = some (some (.agg #[.int .i64 0, .bool false]), 2, 16) := by kernel_rfl

@[go_sem] theorem eqlEntsNil (w : World) (a : Option Addr) (n c n' c' : Nat) : (binOp .eql 37 (.slice a n c) (.slice none n' c')).run Tryz.prog w = .ok (.bool a.isNone) w :=
 Lib.run_eql_slice_nil w _ _ a n c n' c' Tryz.underlying37


end Go.Proofs.YtbijaloeilnjoaaGreat

namespace Go.Proofs.YtbijaloeilnjoaaGreat
open Go.RowKit

@[go_sem high] theorem neqEnt (w : World) (s s' : Int) (x x' : Bool) : (binOp .neq 97 (.agg #[.int .i64 s, .bool x]) (.agg #[.int .i64 s', .bool x'])).run Tryz.prog w = .ok (.bool !(s == s' && x == x')) w := by
 rw [run_neq_struct, run_equalIn_agg _ _ _ _ _ undEnt stoodEnt]
 simp [Op.eqFields, go_sem, intEql, boolEql]
 by_cases h : s = s' <;> by_cases h' : x = x' <;> simp [h, h']

set_option maxRecDepth 100000 in
set_option maxHeartbeats 400000 in
theorem rarea_any (A : Option Addr) (c : Nat) (l : List Ent) (w : World) (hl : l.length ≤ 9223372036854775807) (he : Ents w A l) :
  Calls Tryz.prog 73 #[.slice A l.length c] w fun e w' => e = .returned (.int .i64 (area l)) ∧ w' = w := by
 rcases List.eq_nil_or_concat l with rfl | ⟨l', ⟨s, x⟩, rfl⟩
 ·go_enter Tryz.func73, Tryz.ntmps73
  go_wp2
  go_ret
  exact ⟨rfl, rfl⟩
 ·rw [show (l'.concat (s, x)) = l' ++ [(s, x)] by simp] at *
  obtain ⟨b, off, rfl, _, hc⟩ := he.at_ (by simp)
  obtain ⟨h0, h1⟩ := hc l'.length s x (by simp)
  have Ha := Lib.hid (show area (l' ++ [(s, x)]) = s by simp [area])
  clear hc he
  rw [List.length_append, List.length_singleton] at *
  go_enter Tryz.func73, Tryz.ntmps73
  go_wp2
  go_ret
  exact ⟨by rw [Ha.out]; rfl, rfl⟩



end Go.Proofs.YtbijaloeilnjoaaGreat

namespace Go.Proofs.YtbijaloeilnjoaaGreat
open Go.RowKit


end Go.Proofs.YtbijaloeilnjoaaGreat
