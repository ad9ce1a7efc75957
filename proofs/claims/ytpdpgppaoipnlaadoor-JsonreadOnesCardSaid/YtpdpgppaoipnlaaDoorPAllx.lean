-- Written by the kit's print.py over several roots (printall.sh)
import Derived.Test.YtpdpgppaoipnlaaDoorPAllx0
import Derived.Test.YtpdpgppaoipnlaaDoorPAllx1
import Derived.Test.YtpdpgppaoipnlaaDoorPAllx2
import Derived.Test.YtpdpgppaoipnlaaDoorPAllx3
import Derived.Test.YtpdpgppaoipnlaaDoorPAllx4
import Derived.Test.YtpdpgppaoipnlaaDoorPAllx5
import Derived.Test.YtpdpgppaoipnlaaDoorPAllx6
namespace Go.Proofs.YtpdpgppaoipnlaaDoor.PAll
open Go.RowKit Go.Proofs.YtpdpgppaoipnlaaDoorW.PrintWords Go.Proofs.YtpdpgppaoipnlaaDoorW.PrintLast Go.Proofs.YtpdpgppaoipnlaaDoorW.PrintMore
attribute [local go_sem] max2_int min2_int max_two min_two max_three min_three max_four min_four   -- for this text's walks alone
set_option linter.unusedVariables false
set_option linter.unusedSimpArgs false

end Go.Proofs.YtpdpgppaoipnlaaDoor.PAll
