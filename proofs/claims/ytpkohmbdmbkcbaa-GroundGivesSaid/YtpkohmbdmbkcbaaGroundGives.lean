/- The law GroundGives's walk: all. -/
import Derived.Test.YtpkohmbdmbkcbaaGroundGivesB
import Derived.Test.YtpkohmbdmbkcbaaGroundGivesC
import Derived.Test.YtpkohmbdmbkcbaaGroundGivesD
namespace Go.Proofs.Ytpkohmbdmbkcbaa
open Go.RowKit

theorem groundGives_walk (A : Option Addr) (c : Nat) (l : List Int) (a n : Int) (w : World) (_ : l.length ≤ c) (_ : c ≤ maxLen) (he : Cells w A (l.flatMap byteCells)) (hq : ∀ e ∈ l, ByteOk e)
    (ha : (Lit.int .i64 a).wf = true) (hn : (Lit.int .i64 n).wf = true) :
    Calls Try.prog 7 #[.slice A l.length c, .int .i64 a, .int .i64 n] w fun e w' => e = .returned (.bool true) ∧ Below w.heap.size w w' := by
  by_cases c0 : 0 < n
  · by_cases c1 : n % 8 = 0
    · by_cases c2 : a % 8 = 0
      · by_cases c3 : 80 ≤ a
        · by_cases c4 : a < 480
          · by_cases c5 : n ≤ 480 - a
            · exact gives_good A c l a n w he hq ha hn c0 c1 c2 c3 c4 c5
            · exact gives_bad5 A c l a n w he hq ha hn c0 c1 c2 c3 c4 c5
          · exact gives_bad4 A c l a n w he hq ha hn c0 c1 c2 c3 c4
        · exact gives_bad3 A c l a n w he hq ha hn c0 c1 c2 c3
      · exact gives_bad2 A c l a n w he hq ha hn c0 c1 c2
    · exact gives_bad1 A c l a n w he hq ha hn c0 c1
  · exact gives_bad0 A c l a n w he hq ha hn c0

end Go.Proofs.Ytpkohmbdmbkcbaa
