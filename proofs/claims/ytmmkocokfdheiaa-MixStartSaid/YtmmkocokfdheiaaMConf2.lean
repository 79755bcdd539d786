/- Lemmas for MixStartSaid, which YtmmkocokfdheiaaFin10 proves. -/
/- The conflicts of a mix: both implementations give one answer. -/
import Derived.Test.YtmmkocokfdheiaaMConf
namespace Go.Lift
def hC (m : ApiMix) (t : ApiTable) (v : Nat) (ok : Bool) : Bool := runB m t.fTo.toNat v && ok
end Go.Lift
