/- annalistref1.SameInts; the laws' sanity check -/
import Derived.Test.YtdgpbpbjlnlijaaGreatBagN
import Derived.Test.YtdgpbpbjlnlijaaGreatBagJ
namespace Go.Proofs.YtdgpbpbjlnlijaaGreat
open Go.RowKit

end Go.Proofs.YtdgpbpbjlnlijaaGreat
