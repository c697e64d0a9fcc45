/- The ground, as layers above name it. -/
import Derived.Test.YthedndejlfkknaaMH
import Derived.Test.YthedndejlfkknaaGroundRefB
import Derived.Laws.MakeOwn
namespace Go.Proofs.Ythedndejlfkknaa
end Go.Proofs.Ythedndejlfkknaa
