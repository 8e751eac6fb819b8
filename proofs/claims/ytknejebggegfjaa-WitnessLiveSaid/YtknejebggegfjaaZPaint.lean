/- Merged by merge.py: DenApi. No condition. -/
import Derived.Test.YtknejebggegfjaaZNum

namespace Go.Proofs.Ytknejebggegfjaa
open Go
set_option linter.unusedVariables false
set_option maxRecDepth 100000
end Go.Proofs.Ytknejebggegfjaa
