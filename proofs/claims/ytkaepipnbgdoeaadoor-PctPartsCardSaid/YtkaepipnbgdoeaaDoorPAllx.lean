-- Written by the kit's print.py over several roots (printall.sh)
import Derived.Test.YtkaepipnbgdoeaaDoorPAllx0
import Derived.Test.YtkaepipnbgdoeaaDoorPAllx1
import Derived.Test.YtkaepipnbgdoeaaDoorPAllx2
import Derived.Test.YtkaepipnbgdoeaaDoorPAllx3
import Derived.Test.YtkaepipnbgdoeaaDoorPAllx4
import Derived.Test.YtkaepipnbgdoeaaDoorPAllx5
import Derived.Test.YtkaepipnbgdoeaaDoorPAllx6
import Derived.Test.YtkaepipnbgdoeaaDoorPAllx7
import Derived.Test.YtkaepipnbgdoeaaDoorPAllx8
namespace Go.Proofs.YtkaepipnbgdoeaaDoor.PAll
open Go.RowKit Go.Proofs.YtkaepipnbgdoeaaDoorW.PrintWords Go.Proofs.YtkaepipnbgdoeaaDoorW.PrintLast Go.Proofs.YtkaepipnbgdoeaaDoorW.PrintMore
attribute [local go_sem] max2_int min2_int max_two min_two max_three min_three max_four min_four   -- for this text's walks alone
set_option linter.unusedVariables false
set_option linter.unusedSimpArgs false

end Go.Proofs.YtkaepipnbgdoeaaDoor.PAll
