/- The engine, part L: a choice of contracts. -/
import Derived.Test.YtdeaigaafdnehaaDoorEnK
namespace Go.Eng
open Go
def OrC (A B : Cx) : Cx := fun xs h K => A xs h K ∨ B xs h K
theorem or_ok {P : Program} {f : FuncId} {A B : Cx} (hA : CxOk P f A) (hB : CxOk P f B) : CxOk P f (OrC A B) := fun xs h K hk => hk.elim (hA xs h K) (hB xs h K)
end Go.Eng
