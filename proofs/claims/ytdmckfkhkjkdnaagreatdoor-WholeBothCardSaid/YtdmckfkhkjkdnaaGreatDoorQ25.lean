/- The helpers on errors: an error as its number; is it this one? -/
import Derived.Test.YtdmckfkhkjkdnaaGreatDoorQ01
set_option linter.unusedVariables false
set_option maxRecDepth 100000
set_option maxHeartbeats 16000000
