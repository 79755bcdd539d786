/- Lemmas for MixStartSaid, which YtmmkocokfdheiaaFin10 proves. -/
/- Slices within slices that are nobody else's: taken out, put back, appended, given over to sharing. No condition. -/
import Derived.Test.YtmmkocokfdheiaaLift24
namespace Go.Lift
open Go.RowKit
variable {P : Program} {X : Ctx} {ops : Array Oper}
section run
variable {dr : Bool} {Q : St → Prop} {r i : Nat} {st : St} {log : List (Nat × Loc)} {o : Oper} {gs : List (Operand × D)}
end run
section run
variable {dr : Bool} {Q : St → Prop} {r i : Nat} {st : St} {log : List (Nat × Loc)} {o : Oper} {gs : List (Operand × D)}
end run
end Go.Lift
