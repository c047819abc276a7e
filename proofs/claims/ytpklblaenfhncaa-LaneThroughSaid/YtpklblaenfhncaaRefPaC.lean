/- The reference's Packets of a parcel, and Good. -/
import Derived.Test.YtpklblaenfhncaaRefPaB
namespace Go.Proofs.Ytpklblaenfhncaa
set_option linter.unusedVariables false
set_option linter.unusedSimpArgs false
open Go.RowKit
end Go.Proofs.Ytpklblaenfhncaa
