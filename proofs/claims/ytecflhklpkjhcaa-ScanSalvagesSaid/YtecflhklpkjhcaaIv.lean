/- The walks over index.Valid and its reference. -/
import Derived.Test.YtecflhklpkjhcaaIt
namespace Go.Proofs.Ytecflhklpkjhcaa
open Go.RowKit

end Go.Proofs.Ytecflhklpkjhcaa
