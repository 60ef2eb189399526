import Derived.Test.YtchonnaoojpdoaaGreatMxArgs
set_option linter.unusedVariables false
set_option linter.unusedSimpArgs false
namespace Go.Mx
open Go.RowKit
inductive NLeaf where
 | flat (k:Leaf) | sl (ks:List Leaf)
section
variable {H:Type} {enc:TypeId × Value → H} {P:Program} {w:World}
end
end Go.Mx
