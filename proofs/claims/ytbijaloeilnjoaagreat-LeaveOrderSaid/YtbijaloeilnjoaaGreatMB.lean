/- The walks of package chain's readers (Area, at, Reach, Parent, Above) and of slices.Index at entries. The walks of slices.Clone at entries, chain.Push and chain.Pop. The walks of the reference for chains: Area, Reach, Parent, Above, Push, Pop, Same. The walks of the reference's Push, Pop and Same for chains, and of the law's 'few'. -/
import Derived.Test.YtbijaloeilnjoaaGreatMA
import Derived.Deep.RegionHeld3
namespace Go.Proofs.YtbijaloeilnjoaaGreat
open Go.RowKit

@[go_sem] theorem eqgEnt : Tryz.prog.eqGuardType Tryz.prog.depth 97 = false := by kernel_rfl
theorem stoodEnt : Tryz.prog.stoodInHeld 97 = false := by kernel_rfl
theorem undEnt : Tryz.prog.underlying 97 = some (.struct (Tryz.prog.fieldsOf 97)) := by kernel_rfl
theorem intEql (d : Nat) (s s' : Int) (w : World) : (Op.equalIn (d + 1) 3 (.int .i64 s) (.int .i64 s')).run Tryz.prog w = .ok (s == s') w := run_equalIn_int w d _ _ _ _ _ Tryz.underlying3
theorem boolEql (d : Nat) (s s' : Bool) (w : World) : (Op.equalIn (d + 1) 4 (.bool s) (.bool s')).run Tryz.prog w = .ok (s == s') w := run_equalIn_bool' w d _ _ _ Tryz.underlying4

@[go_sem high] theorem eqlEnt (w : World) (s s' : Int) (x x' : Bool) : (binOp .eql 97 (.agg #[.int .i64 s, .bool x]) (.agg #[.int .i64 s', .bool x'])).run Tryz.prog w = .ok (.bool (s == s' && x == x')) w := by
  rw [run_eql_struct, run_equalIn_agg _ _ _ _ _ undEnt stoodEnt]
  simp [Op.eqFields, go_sem, intEql, boolEql]
  by_cases h : s = s' <;> by_cases h' : x = x' <;> simp [h, h']

end Go.Proofs.YtbijaloeilnjoaaGreat

namespace Go.Proofs.YtbijaloeilnjoaaGreat
open Go.RowKit

theorem infoEnt : (Tryz.prog.info? 97).map (fun i => (i.zero, i.size, i.bytes)) = some (some (.agg #[.int .i64 0, .bool false]), 2, 16) := by kernel_rfl

@[go_sem] theorem eqlEntsNil (w : World) (a : Option Addr) (n c n' c' : Nat) : (binOp .eql 37 (.slice a n c) (.slice none n' c')).run Tryz.prog w = .ok (.bool a.isNone) w :=
  Lib.run_eql_slice_nil w _ _ a n c n' c' Tryz.underlying37


end Go.Proofs.YtbijaloeilnjoaaGreat

namespace Go.Proofs.YtbijaloeilnjoaaGreat
open Go.RowKit

@[go_sem high] theorem neqEnt (w : World) (s s' : Int) (x x' : Bool) : (binOp .neq 97 (.agg #[.int .i64 s, .bool x]) (.agg #[.int .i64 s', .bool x'])).run Tryz.prog w = .ok (.bool !(s == s' && x == x')) w := by
  rw [run_neq_struct, run_equalIn_agg _ _ _ _ _ undEnt stoodEnt]
  simp [Op.eqFields, go_sem, intEql, boolEql]
  by_cases h : s = s' <;> by_cases h' : x = x' <;> simp [h, h']

set_option maxRecDepth 100000 in
set_option maxHeartbeats 400000 in
theorem rarea_any (A : Option Addr) (c : Nat) (l : List Ent) (w : World) (hl : l.length ≤ 9223372036854775807) (he : Ents w A l) :
    Calls Tryz.prog 73 #[.slice A l.length c] w fun e w' => e = .returned (.int .i64 (area l)) ∧ w' = w := by
  rcases List.eq_nil_or_concat l with rfl | ⟨l', ⟨s, x⟩, rfl⟩
  · go_enter Tryz.func73, Tryz.ntmps73
    go_wp2
    go_ret
    exact ⟨rfl, rfl⟩
  · rw [show (l'.concat (s, x)) = l' ++ [(s, x)] by simp] at *
    obtain ⟨b, off, rfl, _, hc⟩ := he.at_ (by simp)
    obtain ⟨h0, h1⟩ := hc l'.length s x (by simp)
    have Ha := Lib.hid (show area (l' ++ [(s, x)]) = s by simp [area])
    clear hc he
    rw [List.length_append, List.length_singleton] at *
    go_enter Tryz.func73, Tryz.ntmps73
    go_wp2
    go_ret
    exact ⟨by rw [Ha.out]; rfl, rfl⟩



end Go.Proofs.YtbijaloeilnjoaaGreat

namespace Go.Proofs.YtbijaloeilnjoaaGreat
open Go.RowKit

set_option maxRecDepth 100000 in
set_option maxHeartbeats 400000 in
theorem same_any (A B : Option Addr) (c d : Nat) (l m : List Ent) (w : World) (hl : l.length ≤ 9223372036854775807) (hm : m.length ≤ 9223372036854775807) (ha : Ents w A l) (hb : Ents w B m) :
    Calls Tryz.prog 54 #[.slice A l.length c, .slice B m.length d] w fun e w' => e = .returned (.bool (decide (l = m))) ∧ Below w.heap.size w w' := by
  by_cases hlen : l.length = m.length
  · have hlen' : ((l.length : Int) != (m.length : Int)) = false := by simp [hlen]
    have Hlen := Lib.hid hlen
    clear hlen
    go_enter Tryz.func54, Tryz.ntmps54
    go_wp2
    go_loopw [5] (fun t wr => ∃ k nq : Nat, k ≤ l.length ∧ t = .int .i64 k ∧ (∀ j, j < k → l[j]? = m[j]?) ∧ wr = w.drewN nq)
      (fun t _ => l.length - (intOf t).toNat)
    case atStart => exact ⟨0, 0, Nat.zero_le _, rfl, by simp, rfl⟩
    case round =>
      obtain ⟨k, nq, hk, rfl, hn, rfl⟩ := hrel
      by_cases hlt : k < l.length
      · have hlt' : k < m.length := by rw [← Hlen.out]; exact hlt
        obtain ⟨b, off, rfl, hb0, hc⟩ := ha.at_ (by omega)
        obtain ⟨b', off', rfl, hb0', hc'⟩ := hb.at_ (by omega)
        obtain ⟨s, x, hv⟩ : ∃ s x, l[k]? = some (s, x) := ⟨_, _, List.getElem?_eq_getElem hlt⟩
        obtain ⟨s', x', hv'⟩ : ∃ s' x', m[k]? = some (s', x') := ⟨_, _, List.getElem?_eq_getElem hlt'⟩
        obtain ⟨h0, h1⟩ := hc k s x hv
        obtain ⟨h2, h3⟩ := hc' k s' x' hv'
        have Hn := Lib.hid hn
        have Hv := Lib.hid hv
        have Hv' := Lib.hid hv'
        clear hn hv hv' hc hc' ha hb
        by_cases heq : (s == s' && x == x') = true
        · go_wp2
          go_quiet (fail)
          go_wp2
          go_roundw
          case rel =>
            refine ⟨k + 1, _, hlt, by go_num, fun j hj => ?_, rfl⟩
            rcases Nat.lt_or_ge j k with h | h
            · exact Hn.out j h
            · obtain rfl : j = k := by omega
              simp only [Bool.and_eq_true, beq_iff_eq] at heq
              rw [Hv.out, Hv'.out, heq.1, heq.2]
          case measure => simp [intOf]; omega
        · have hne : (s == s' && x == x') = false := by simpa using heq
          have Hd := Lib.hid (show decide (l = m) = false by
            refine decide_eq_false (fun e => heq ?_)
            subst e
            have := Hv.out.symm.trans Hv'.out
            simp only [Option.some.injEq, Prod.mk.injEq] at this
            simp [this])
          clear heq
          go_wp2
          go_quiet (fail)
          go_wp2
          go_ret
          exact ⟨by rw [Hd.out]; rfl, by repeat (first | exact Below.refl _ _ | refine below_drewN ?_ _)⟩
      · have Hd := Lib.hid (show decide (l = m) = true by
          refine decide_eq_true (List.ext_getElem? (fun j => ?_))
          have := Hlen.out
          rcases Nat.lt_or_ge j k with h | h
          · exact hn j h
          · rw [List.getElem?_eq_none (by omega), List.getElem?_eq_none (by omega)])
        clear hn
        go_wp2
        go_ret
        exact ⟨by rw [Hd.out]; rfl, by repeat (first | exact Below.refl _ _ | refine below_drewN ?_ _)⟩
  · have hlen' : ((l.length : Int) != (m.length : Int)) = true := by simp; omega
    have Hd := Lib.hid (show decide (l = m) = false from decide_eq_false (fun e => hlen (by rw [e])))
    go_enter Tryz.func54, Tryz.ntmps54
    go_wp2
    go_ret
    exact ⟨by rw [Hd.out]; rfl, Below.refl _ _⟩

end Go.Proofs.YtbijaloeilnjoaaGreat
