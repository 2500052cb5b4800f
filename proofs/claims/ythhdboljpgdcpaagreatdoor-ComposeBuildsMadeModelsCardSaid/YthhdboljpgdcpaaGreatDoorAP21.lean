/- Lemmas for the law ComposeBuildsMadeModels, part 21. No conditions. -/
import Derived.Test.YthhdboljpgdcpaaGreatDoorAP16
import Derived.Test.YthhdboljpgdcpaaGreatDoorAP17
import Derived.Test.YthhdboljpgdcpaaGreatDoorAP18
import Derived.Test.YthhdboljpgdcpaaGreatDoorAP19
import Derived.Test.YthhdboljpgdcpaaGreatDoorAP20
set_option maxRecDepth 100000
set_option maxHeartbeats 4000000
set_option linter.all false

