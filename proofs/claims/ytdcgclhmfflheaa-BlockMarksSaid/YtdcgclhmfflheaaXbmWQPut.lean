import Derived.Test.YtdcgclhmfflheaaXbmWWords
import Derived.Test.YtdcgclhmfflheaaXbmWLast
namespace Go.Proofs.YtdcgclhmfflheaaW.PrintWords
open Go.RowKit
end Go.Proofs.YtdcgclhmfflheaaW.PrintWords
