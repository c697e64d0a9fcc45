/- The ground, as layers above name it. -/
import Derived.Test.YtoadddfiibeenaaMH
import Derived.Test.YtoadddfiibeenaaGroundRefB
import Derived.Laws.MakeOwn
namespace Go.Proofs.Ytoadddfiibeenaa
end Go.Proofs.Ytoadddfiibeenaa
