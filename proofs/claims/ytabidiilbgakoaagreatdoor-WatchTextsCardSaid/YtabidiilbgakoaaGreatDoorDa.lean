/- Lines as plain data. Conditions: as each theorem says. -/
import Derived.Test.YtabidiilbgakoaaGreatDoorCb
import Derived.Test.YtabidiilbgakoaaGreatDoorEa
import Derived.Test.YtabidiilbgakoaaGreatDoorPa
namespace Go.AM
open Go.Proofs Cw Du
set_option maxRecDepth 10000
set_option maxHeartbeats 4000000
def zX (l:Lin):AV:=.agg [iv .i64 l.kind,sv l.tower,sv l.person,sv l.other,iv .i64 l.fr,iv .i64 l.to,iv .i64 l.ev,.fslc l.nl l.fu l.s (l.exc.map (iv .i64))]
def QA (l:Lin):Prop:=l.exc=[]∨l.nl=false∧l.s=1
end Go.AM
