/-
  Texts of a proof, joined.
  Conditions: none.
-/
import Derived.Test.YtfacfpcopcgbdaaGreatPBR11
set_option linter.all false
set_option maxRecDepth 20000
set_option maxHeartbeats 8000000
