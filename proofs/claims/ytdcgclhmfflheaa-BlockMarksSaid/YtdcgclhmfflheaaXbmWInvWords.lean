import Derived.Test.YtdcgclhmfflheaaXbmWInv
import Derived.Test.YtdcgclhmfflheaaXbmWFootNe
namespace Go.Proofs.YtdcgclhmfflheaaW.PrintWords
open Go.RowKit
end Go.Proofs.YtdcgclhmfflheaaW.PrintWords
