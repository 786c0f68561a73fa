/- law 20: BookNil. -/
import Derived.Test.YtehoobhbginahaaDoorKN1

set_option linter.unusedVariables false
set_option linter.unusedSimpArgs false
namespace Go.Proofs.YtehoobhbginahaaDoor
open Go Go.Lens
end Go.Proofs.YtehoobhbginahaaDoor
