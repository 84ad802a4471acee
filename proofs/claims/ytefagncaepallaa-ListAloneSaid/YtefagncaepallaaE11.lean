/- No cell of a free node is touched: the law's walk. -/
import Derived.Test.YtefagncaepallaaE8
import Derived.Test.YtefagncaepallaaPB
import Derived.Test.YtefagncaepallaaOpen21
namespace Go.Proofs.Ytefagncaepallaa
open Go.RowKit
set_option maxRecDepth 100000

end Go.Proofs.Ytefagncaepallaa
