/-
  Arrays of numbers among the arguments.
-/
import Derived.Test.YtohckjjbephohaaShardsPlayAllP6
import Derived.WideShapes
namespace Go.Proofs.Ytohckjjbephohaa
namespace Sx
open Go Go.ChangeShapes Go.WideShapes Go.RowKit

end Sx
end Go.Proofs.Ytohckjjbephohaa

