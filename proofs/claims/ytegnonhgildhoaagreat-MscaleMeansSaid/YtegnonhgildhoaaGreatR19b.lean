import Derived.Test.YtegnonhgildhoaaGreatR19
import Derived.Test.YtegnonhgildhoaaGreatED
import Derived.Test.YtegnonhgildhoaaGreatP2
namespace Go.Proofs.YtegnonhgildhoaaGreat.E
open Go Go.RowKit
set_option linter.unusedVariables false
set_option linter.unusedSimpArgs false
end Go.Proofs.YtegnonhgildhoaaGreat.E
