-- Written by a program of this session for this claim (the kit's printer, with contracts of this session's own); Lean checks it.
import Derived.Test.YtbhlmdaogdhjdaaDoorY0
import Derived.Test.YtbhlmdaogdhjdaaDoorY1
import Derived.Test.YtbhlmdaogdhjdaaDoorY2
namespace Go.Proofs.YtbhlmdaogdhjdaaDoor.Y
open Go.RowKit Go.Proofs.YtbhlmdaogdhjdaaDoorW.PrintWords Go.Proofs.YtbhlmdaogdhjdaaDoorW.PrintLast Go.Proofs.YtbhlmdaogdhjdaaDoorW.PrintMore
attribute [local go_sem] max2_int min2_int max_two min_two max_three min_three max_four min_four   -- for this text's walks alone
set_option linter.unusedVariables false
set_option linter.unusedSimpArgs false

end Go.Proofs.YtbhlmdaogdhjdaaDoor.Y
