/- What holds in every world of a run: the package variables that stand. -/
import Derived.Test.YtpiabmjipgfjjaaDoorPuI
import Derived.Test.YtpiabmjipgfjjaaDoorTool
namespace Go.Proofs.YtpiabmjipgfjjaaDoor
open Go.RowKit
def inv (w : World) : Prop := Nms w
theorem inv_below {w w' : World} (h : inv w) (hb : Below w.heap.size w w') : inv w' := Nms.below h hb
end Go.Proofs.YtpiabmjipgfjjaaDoor
