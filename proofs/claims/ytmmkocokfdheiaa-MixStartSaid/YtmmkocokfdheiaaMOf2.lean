/- Lemmas for MixStartSaid, which YtmmkocokfdheiaaFin10 proves. -/
/- The drafts of problems: what the recipe gives is a valid problem. -/
import Derived.Test.YtmmkocokfdheiaaMOf
namespace Go.Lift
end Go.Lift
