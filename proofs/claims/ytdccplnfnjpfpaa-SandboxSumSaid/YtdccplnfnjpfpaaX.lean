-- Written by a program of this session for this claim (the kit's printer, with contracts of this session's own); Lean checks it.
import Derived.Test.YtdccplnfnjpfpaaX0
import Derived.Test.YtdccplnfnjpfpaaX1
import Derived.Test.YtdccplnfnjpfpaaX2
import Derived.Test.YtdccplnfnjpfpaaX3
import Derived.Test.YtdccplnfnjpfpaaX4
import Derived.Test.YtdccplnfnjpfpaaX5
import Derived.Test.YtdccplnfnjpfpaaX6
import Derived.Test.YtdccplnfnjpfpaaX7
import Derived.Test.YtdccplnfnjpfpaaX8
import Derived.Test.YtdccplnfnjpfpaaX9
import Derived.Test.YtdccplnfnjpfpaaX10
import Derived.Test.YtdccplnfnjpfpaaX11
import Derived.Test.YtdccplnfnjpfpaaX12
namespace Go.Proofs.Ytdccplnfnjpfpaa.X
open Go.RowKit Go.Proofs.YtdccplnfnjpfpaaW.PrintWords Go.Proofs.YtdccplnfnjpfpaaW.PrintLast Go.Proofs.YtdccplnfnjpfpaaW.PrintMore
attribute [local go_sem] max2_int min2_int max_two min_two max_three min_three max_four min_four   -- for this text's walks alone
set_option linter.unusedVariables false
set_option linter.unusedSimpArgs false

end Go.Proofs.Ytdccplnfnjpfpaa.X
