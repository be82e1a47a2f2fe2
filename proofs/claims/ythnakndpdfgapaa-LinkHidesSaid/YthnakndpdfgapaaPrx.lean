-- Written by wip/tools/pr.sh out of Lean's own print of the translation. Not trusted: Lean checks it.
import Derived.Test.YthnakndpdfgapaaPrx0
import Derived.Test.YthnakndpdfgapaaPrx1
import Derived.Test.YthnakndpdfgapaaPrx2
import Derived.Test.YthnakndpdfgapaaPrx3
import Derived.Test.YthnakndpdfgapaaPrx4
import Derived.Test.YthnakndpdfgapaaPrx5
import Derived.Test.YthnakndpdfgapaaPrx6
import Derived.Test.YthnakndpdfgapaaPrx7
import Derived.Test.YthnakndpdfgapaaPrx8
import Derived.Test.YthnakndpdfgapaaPrx9
import Derived.Test.YthnakndpdfgapaaPrx10
namespace Go.Proofs.Ythnakndpdfgapaa.Pr
open Go.RowKit Go.Proofs.YthnakndpdfgapaaW.PrintWords Go.Proofs.YthnakndpdfgapaaW.PrintLast Go.Proofs.YthnakndpdfgapaaW.PrintMore
attribute [local go_sem] max2_int min2_int max_two min_two max_three min_three max_four min_four   -- for this text's walks alone
set_option linter.unusedVariables false
set_option linter.unusedSimpArgs false

end Go.Proofs.Ythnakndpdfgapaa.Pr
