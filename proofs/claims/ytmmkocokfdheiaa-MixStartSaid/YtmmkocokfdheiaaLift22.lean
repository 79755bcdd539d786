/- Lemmas for MixStartSaid, which YtmmkocokfdheiaaFin10 proves. -/
/- Contracts of functions that write into blocks that they are lent, and that give back blocks of any kind. No condition. -/
import Derived.Test.YtmmkocokfdheiaaLift21
namespace Go.Lift
open Go.RowKit
variable {P : Program} {X : Ctx} {ops : Array Oper}
instance : Inhabited Blk := ⟨.gone⟩
def newB (f : Nat → Nat) : List Nat → List Blk → List (Nat × Blk)
  | n :: ns, x :: xs => (n, x.ren f) :: newB f ns xs
  | _, _ => []
section run
variable {dr : Bool} {Q : St → Prop} {r i : Nat} {st : St} {log : List (Nat × Loc)} {o : Oper} {gs : List (Operand × D)}
end run
end Go.Lift
