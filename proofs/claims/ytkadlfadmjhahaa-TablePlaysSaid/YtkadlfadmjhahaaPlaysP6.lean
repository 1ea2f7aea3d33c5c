/-
  Arrays of numbers among the arguments.
-/
import Derived.Test.YtkadlfadmjhahaaPlaysP5
import Derived.WideShapes
namespace Go.Proofs.Ytkadlfadmjhahaa
namespace Sx
open Go Go.ChangeShapes Go.WideShapes Go.RowKit

end Sx
end Go.Proofs.Ytkadlfadmjhahaa

