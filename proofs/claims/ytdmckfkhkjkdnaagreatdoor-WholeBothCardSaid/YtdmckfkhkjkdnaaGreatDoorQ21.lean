/- The taker of a cursor: address, part: walked. -/
import Derived.Test.YtdmckfkhkjkdnaaGreatDoorQ18
set_option linter.unusedVariables false
set_option maxRecDepth 100000
set_option maxHeartbeats 16000000
namespace Go.Proofs.YtdmckfkhkjkdnaaGreatDoor
open Go.RowKit
section
attribute [local go_sem ↓] hV41 hV190 hV102 hW41 hW190 hW102 hB190 hB102
end
end Go.Proofs.YtdmckfkhkjkdnaaGreatDoor
