/- The reference's may: it answers as its Lean function. -/
import Derived.Test.YtpacnaeckbcpjaaDoorTree
import Derived.Test.YtpacnaeckbcpjaaDoorChecked
namespace Go.Proofs.YtpacnaeckbcpjaaDoor
open Go.RowKit Go.Chalk

end Go.Proofs.YtpacnaeckbcpjaaDoor
