/-
  span.Right, span.Has, span.Join, and the document's Same, Has, Join. Conditions: the spans lie in memory as told; there are few.
-/
import Derived.Test.YtdlcakmjihfgfaaDoorSpHas
import Derived.Shelf.Abstract
namespace Go.Proofs.YtdlcakmjihfgfaaDoor
open Go.RowKit Go.Shelf SpanPlain

def rightP (n : Int) (t : Sp) : Bool := decide (t.1 < 0) || decide (n < t.2) || decide (t.2 < t.1)
end Go.Proofs.YtdlcakmjihfgfaaDoor
