import Derived.Test.YtlcnkngpankkpaaProg
import Derived.Test.YtlcnkngpankkpaaFwEq
import Derived.Test.YtlcnkngpankkpaaFwOpen
namespace Go.Proofs.Ytlcnkngpankkpaa.G
open Go Go.Fw Go.RowKit Go.Proofs
set_option linter.unusedVariables false
set_option linter.unusedSimpArgs false

noncomputable def Cd6 : Code := bodyOf Try.f6

end Go.Proofs.Ytlcnkngpankkpaa.G
