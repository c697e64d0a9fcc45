/- The ground, as layers above name it. -/
import Derived.Test.YtnimaajnlkbdaaaGreatMH
import Derived.Test.YtnimaajnlkbdaaaGreatGroundRefB
import Derived.Laws.MakeOwn
namespace Go.Proofs.YtnimaajnlkbdaaaGreat
end Go.Proofs.YtnimaajnlkbdaaaGreat
