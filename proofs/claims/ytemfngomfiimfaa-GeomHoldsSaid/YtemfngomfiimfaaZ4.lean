/- Chapter 09 (zone): Crash, the program's and the document's. Seat-free. -/
import Derived.Test.YtemfngomfiimfaaZ3
set_option linter.unusedVariables false
set_option linter.unusedSimpArgs false
set_option maxHeartbeats 4000000
set_option maxRecDepth 20000
namespace Go.Proofs.Ytemfngomfiimfaa.K
open Go.RowKit
attribute [local irreducible] strEq strOfNums Calls WL WC WQ WX Code.wp wpList bodyPost
end Go.Proofs.Ytemfngomfiimfaa.K
