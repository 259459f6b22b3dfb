import Derived.Test.YtdcgclhmfflheaaXbmWWords
import Derived.Laws.StructEq
namespace Go.Proofs.YtdcgclhmfflheaaW.PrintWords
open Go.RowKit
end Go.Proofs.YtdcgclhmfflheaaW.PrintWords
