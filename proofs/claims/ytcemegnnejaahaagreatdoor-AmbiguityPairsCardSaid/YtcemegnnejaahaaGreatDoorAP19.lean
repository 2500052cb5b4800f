/- Lemmas for the law AmbiguityOfDeterministic, part 19. No conditions. -/
import Derived.Test.YtcemegnnejaahaaGreatDoorAP14
import Derived.Test.YtcemegnnejaahaaGreatDoorAP15
import Derived.Test.YtcemegnnejaahaaGreatDoorAP16
import Derived.Test.YtcemegnnejaahaaGreatDoorAP17
import Derived.Test.YtcemegnnejaahaaGreatDoorAP18
set_option maxRecDepth 100000
set_option maxHeartbeats 4000000
set_option linter.all false

