import Derived.Test.YtdcgclhmfflheaaXbrPQ0
import Derived.Test.YtdcgclhmfflheaaXbrPQe1
import Derived.Test.YtdcgclhmfflheaaXbrPQe2
import Derived.Test.YtdcgclhmfflheaaXbrPQe3
import Derived.Test.YtdcgclhmfflheaaXbrPQf49
namespace Go.Proofs.Ytdcgclhmfflheaa.PQ
open Go.RowKit Go.Proofs.YtdcgclhmfflheaaW.PrintWords Go.Proofs.YtdcgclhmfflheaaW.PrintLast Go.Proofs.YtdcgclhmfflheaaW.PrintMore
attribute [local go_sem] max2_int min2_int max_two min_two max_three min_three max_four min_four
set_option linter.unusedVariables false
set_option linter.unusedSimpArgs false
attribute [local go_sem high] eqA54 eqA56 eqA87
end Go.Proofs.Ytdcgclhmfflheaa.PQ
