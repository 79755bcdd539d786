/- Lemmas for MixStartSaid, which YtmmkocokfdheiaaFin10 proves. -/
/- The law MixCompare in plain words. -/
import Derived.Test.YtmmkocokfdheiaaPlain2
import Derived.KernelRfl
namespace Go.Lift
theorem awake_true : Sh.sheavelaw36_awake 1000 = some true := by kernel_rfl
end Go.Lift
