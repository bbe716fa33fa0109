/- A part of the proof. -/
import Derived.Test.YtdhfgihnoimoaaaProg
set_option linter.all false
set_option maxHeartbeats 4000000
set_option maxRecDepth 100000
