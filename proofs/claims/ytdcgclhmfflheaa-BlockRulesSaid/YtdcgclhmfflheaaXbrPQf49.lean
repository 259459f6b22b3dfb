import Derived.Test.YtdcgclhmfflheaaXbrPQ0
namespace Go.Proofs.Ytdcgclhmfflheaa.PQ
open Go.RowKit Go.Proofs.YtdcgclhmfflheaaW.PrintWords Go.Proofs.YtdcgclhmfflheaaW.PrintLast Go.Proofs.YtdcgclhmfflheaaW.PrintMore
attribute [local go_sem] max2_int min2_int max_two min_two max_three min_three max_four min_four
set_option linter.unusedVariables false
set_option linter.unusedSimpArgs false
end Go.Proofs.Ytdcgclhmfflheaa.PQ
