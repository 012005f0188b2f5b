/- A function's text cut behind its statements. -/
import Derived.Test.YtmamcpaejhjceaaW6
import Derived.Test.YtmamcpaejhjceaaRoom
namespace Go.Proofs.Ytmamcpaejhjceaa.HP
open Go.MapKept Go.ChangeMaps Go.RowKit
def dropSeq : Nat → Code → Code
  | 0, c => c
  | n + 1, .seq _ b => dropSeq n b
  | _, _ => .skip
def headSeq : Code → Code
  | .seq a _ => a
  | c => c
noncomputable def body4 : Code := Try.f4.body.getD .skip
noncomputable def tail4 (i : Nat) : Code := dropSeq i body4
end Go.Proofs.Ytmamcpaejhjceaa.HP
