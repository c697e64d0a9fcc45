/- The document's head.Unpack and thing.At, of a head that may be. The program's head.Unpack and thing.At, of a head that may be. (Printed by gen_thg.py.) -/
import Derived.Test.YtbijaloeilnjoaaGreatRTake
namespace Go.Proofs.YtbijaloeilnjoaaGreat
open Go.RowKit
set_option linter.unusedVariables false
set_option linter.unusedSimpArgs false

abbrev hdCells (sz sl tg : Int) (dn : Bool) (sc ep : Int) : Array Value := #[.int .i64 sz, .int .i64 sl, .int .i64 tg, .bool dn, .int .i64 sc, .int .i64 ep]
theorem infoHd : (Tryz.prog.info? 148).map (·.size) = some 6 := by kernel_rfl
theorem undHd : Tryz.prog.underlying 148 = some (.struct (Tryz.prog.fieldsOf 148)) := by kernel_rfl
theorem hd_one (sz sl tg : Int) (dn : Bool) (sc ep : Int) : (hdCells sz sl tg dn sc ep).all (·.oneCell') = true := by simp [Value.oneCell']
end Go.Proofs.YtbijaloeilnjoaaGreat

namespace Go.Proofs.YtbijaloeilnjoaaGreat
open Go.RowKit
set_option linter.unusedVariables false
set_option linter.unusedSimpArgs false

set_option maxRecDepth 100000 in
set_option maxHeartbeats 4000000 in
theorem headPart0 (x : Int) (w : World) (h0 : 0 ≤ x) (h1 : x ≤ 18446744073709551615) : Calls Tryz.prog 152 #[.int .u64 x, .int .i64 0] w fun r w' => r = .returned (.int .i64 (x % 256)) ∧ w' = w := by
 have m1 : bits .and .u64 (x) 255 = x % 256 := umask8 _ (by omega) (by omega)
 obtain ⟨z, Hz⟩ : ∃ z, Hid (x % 256 = z) := ⟨_, Lib.hid rfl⟩
 rw [Hz.out] at m1 ⊢
 have z0 : 0 ≤ z := by rw [← Hz.out]; omega
 have z1 : z ≤ 255 := by rw [← Hz.out]; omega
 go_enter Tryz.func152, Tryz.ntmps152
 go_wp2_with fail
 go_ret
 exact ⟨rfl, rfl⟩
set_option maxRecDepth 100000 in
set_option maxHeartbeats 4000000 in
theorem headPart32 (x : Int) (w : World) (h0 : 0 ≤ x) (h1 : x ≤ 18446744073709551615) : Calls Tryz.prog 152 #[.int .u64 x, .int .i64 32] w fun r w' => r = .returned (.int .i64 (x / 4294967296 % 256)) ∧ w' = w := by
 have m1 : bits .and .u64 (x / 4294967296) 255 = x / 4294967296 % 256 := umask8 _ (by omega) (by omega)
 obtain ⟨z, Hz⟩ : ∃ z, Hid (x / 4294967296 % 256 = z) := ⟨_, Lib.hid rfl⟩
 rw [Hz.out] at m1 ⊢
 have z0 : 0 ≤ z := by rw [← Hz.out]; omega
 have z1 : z ≤ 255 := by rw [← Hz.out]; omega
 go_enter Tryz.func152, Tryz.ntmps152
 go_wp2_with fail
 go_ret
 exact ⟨rfl, rfl⟩
set_option maxRecDepth 100000 in
set_option maxHeartbeats 4000000 in
theorem headPart40 (x : Int) (w : World) (h0 : 0 ≤ x) (h1 : x ≤ 18446744073709551615) : Calls Tryz.prog 152 #[.int .u64 x, .int .i64 40] w fun r w' => r = .returned (.int .i64 (x / 1099511627776 % 256)) ∧ w' = w := by
 have m1 : bits .and .u64 (x / 1099511627776) 255 = x / 1099511627776 % 256 := umask8 _ (by omega) (by omega)
 obtain ⟨z, Hz⟩ : ∃ z, Hid (x / 1099511627776 % 256 = z) := ⟨_, Lib.hid rfl⟩
 rw [Hz.out] at m1 ⊢
 have z0 : 0 ≤ z := by rw [← Hz.out]; omega
 have z1 : z ≤ 255 := by rw [← Hz.out]; omega
 go_enter Tryz.func152, Tryz.ntmps152
 go_wp2_with fail
 go_ret
 exact ⟨rfl, rfl⟩
set_option maxRecDepth 100000 in
set_option maxHeartbeats 4000000 in
theorem headPart48 (x : Int) (w : World) (h0 : 0 ≤ x) (h1 : x ≤ 18446744073709551615) : Calls Tryz.prog 152 #[.int .u64 x, .int .i64 48] w fun r w' => r = .returned (.int .i64 (x / 281474976710656 % 256)) ∧ w' = w := by
 have m1 : bits .and .u64 (x / 281474976710656) 255 = x / 281474976710656 % 256 := umask8 _ (by omega) (by omega)
 obtain ⟨z, Hz⟩ : ∃ z, Hid (x / 281474976710656 % 256 = z) := ⟨_, Lib.hid rfl⟩
 rw [Hz.out] at m1 ⊢
 have z0 : 0 ≤ z := by rw [← Hz.out]; omega
 have z1 : z ≤ 255 := by rw [← Hz.out]; omega
 go_enter Tryz.func152, Tryz.ntmps152
 go_wp2_with fail
 go_ret
 exact ⟨rfl, rfl⟩
end Go.Proofs.YtbijaloeilnjoaaGreat
