/- Links and grants: contracts. -/
import Derived.Test.YtcbppkfnfbdkhaaMn
set_option linter.all false
namespace Go.Proofs.Ytcbppkfnfbdkhaa
#print axioms Linked_ic
#print axioms Granted_nd
end Go.Proofs.Ytcbppkfnfbdkhaa
