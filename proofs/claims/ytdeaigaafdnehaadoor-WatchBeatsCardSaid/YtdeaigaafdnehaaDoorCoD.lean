/- Contracts: units, Steps; the references' small functions. -/
import Derived.Test.YtdeaigaafdnehaaDoorCoC
namespace Go.Proofs.YtdeaigaafdnehaaDoor.Co
open Go Go.Eng Go.Proofs Go.Proofs.YtdeaigaafdnehaaDoor.Tb Go.Pu
set_option maxRecDepth 100000
set_option maxHeartbeats 8000000
abbrev outs0 : List (FuncId × Cx) := []
theorem outs0_ok : OutsOk Tryd.prog outs0 := .nil
end Go.Proofs.YtdeaigaafdnehaaDoor.Co
