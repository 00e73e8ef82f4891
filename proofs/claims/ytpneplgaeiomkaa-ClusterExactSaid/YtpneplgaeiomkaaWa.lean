/- Lists of ints: equal, and the searches. -/
import Derived.Test.YtpneplgaeiomkaaWz
set_option linter.all false
set_option maxRecDepth 20000
namespace Go.Proofs.Ytpneplgaeiomkaa
open Go.RowKit Go.Shelf
end Go.Proofs.Ytpneplgaeiomkaa
