/- Lemmas for the law ComposeBuildsMadeModels, part 13. No conditions. -/
import Derived.Test.YthhdboljpgdcpaaGreatDoorAP12
set_option maxRecDepth 100000
set_option maxHeartbeats 4000000
set_option linter.all false
namespace Go.Ab
def Nj(l:List UInt8):ByteArray:=⟨l.toArray⟩
end Go.Ab
