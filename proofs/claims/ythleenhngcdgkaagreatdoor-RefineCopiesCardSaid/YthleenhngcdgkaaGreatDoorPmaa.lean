/- refineCopies_proved. -/
import Derived.Test.YthleenhngcdgkaaGreatDoorProg
set_option maxRecDepth 100000
set_option maxHeartbeats 16000000
set_option linter.all false
noncomputable section
