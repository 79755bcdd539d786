/- Lemmas for MixStartSaid, which YtmmkocokfdheiaaFin10 proves. -/
/- Smaller operations: least and greatest, checks against nil, a part of an element, bytes and strings; maps of the call's own. No condition. -/
import Derived.Test.YtmmkocokfdheiaaLift23
namespace Go.Lift
open Go.RowKit
variable {P : Program} {X : Ctx} {ops : Array Oper}
section run
variable {dr : Bool} {Q : St → Prop} {r i : Nat} {st : St} {log : List (Nat × Loc)} {o : Oper} {gs : List (Operand × D)}
end run
section maps
variable {K V : Type}
end maps
section run
variable {dr : Bool} {Q : St → Prop} {r i : Nat} {st : St} {log : List (Nat × Loc)} {o : Oper} {gs : List (Operand × D)}
end run
end Go.Lift
