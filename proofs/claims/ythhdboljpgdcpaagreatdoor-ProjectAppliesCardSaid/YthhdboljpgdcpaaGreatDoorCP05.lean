/- Lemmas for the law ProjectApplies, part 5. No conditions. -/
import Derived.Test.YthhdboljpgdcpaaGreatDoorCP04
set_option maxRecDepth 100000
set_option maxHeartbeats 4000000
set_option linter.all false
namespace Go.Ab
def Ow(l:List UInt8):ByteArray:=⟨l.toArray⟩
end Go.Ab
