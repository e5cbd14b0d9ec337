/- The shelf's contracts, by the name that the disk's texts import. -/
import Derived.Test.YtockmhhiomdlkaaBld
namespace Go.Proofs.Ytockmhhiomdlkaa
set_option linter.unusedSimpArgs false
set_option linter.unusedVariables false
end Go.Proofs.Ytockmhhiomdlkaa
