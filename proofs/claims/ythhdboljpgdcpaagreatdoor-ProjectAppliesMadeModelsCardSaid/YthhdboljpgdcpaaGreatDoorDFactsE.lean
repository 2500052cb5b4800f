/-
Closed facts of the given row, by the kernel (part E).
-/
import Derived.Test.YthhdboljpgdcpaaGreatDoorTie
import Derived.Test.YthhdboljpgdcpaaGreatDoorCards
import Derived.JoinedOf
import Derived.SevenTiedAt
import GoSem.ClaimSeven
import Derived.KernelRfl
namespace Go.Proofs.YthhdboljpgdcpaaGreatDoor
set_option maxRecDepth 100000
def ll : List FuncId := [6,12,41,13,42,43,90,46,97,138,137,177,132,174,175,188,259,189,260,190,176,23,59,61,60,113,155,112,151,152,153,154,134,133,93,92,84,131,173,83,91,22,18,15,47,98,139,140,180,141,99,100,123,163,193,194,263,265,264,308,266,309,316,314,354,383,399,355,271,312,356,128,168,169,252,170,171,195,196,197,267,310,270,313,198,199,268,269,311,200,201,202,272,220,274,315,219,273,203,204,205,275,214,277,323,329,330,366,365,367,331,332,368,369,389,390,317,319,284,336,370,337,371,285,287,318,357,358,359,384,360,345,376,385,403,302,347,377,410,380,379,206,276,301,346,335,320,361,350,381,401,321,362,386,387,388,404,411,322,217,279,324,288,338,339,280,325,363,326,327,364,328,164,207,208,209,210,211,212,213,215,278,216,165,218,221,222,223,166,224,225,226,227,228,229,230,281,231,282,333,334,283,286,232,233,167,234,235,289,340,290,120,160,236,237,238,291,292,341,373,372,391,392,405,393,406,407,394,408,409,412,395,396,397,398,342,239,240,294,293,343,241,242,243,244,295,296,298,297,245,247,300,246,299,344,374,375,305,248,250,304,249,303,348,378,400,349,251,101,143,142,181,48,50,75,124,126,103,148,49,102,145,146,183,144,182,147,184,24,62,63,74,122,125,27,71,72,121,161,162,192,262,73,119,77,78,76,127,9,25,64,26,65,114,156,70,66,115,117,116,157,67,118,158,159,191,261,68,69,28,79,80,129,51,94,136,178,179,254,255,307,352,353,382,402,256,258,257,104,16,52,105,106,107,108,149,45,96,172,253,306,351,40,89,53,55,110,54,109,30,81,82,39,88,130,31,10,29,37,32,33,34,35,85,36,87,86,135,56,111,150,185,186,187,57,14,44,95,17,38]
theorem ga : Tryz.prog.closure 6 = ll := by kernel_rfl
theorem gb : ll.any (fun g => (Tryz.prog.funcs[g]?).any Func.goes) = false := by kernel_rfl
theorem gc : Tryz.prog.funcs.any Func.goes = false := by kernel_rfl
theorem gd : Tryz.prog.goes 6 = false := by
  unfold Program.goes
  rw [ga, gb, gc, Bool.and_false]
  rfl
theorem ge : Tryz.prog.funcNamed Rows.projectAppliesMadeModelsRow.func = some 6 := by kernel_rfl
theorem g1 : false = Rows.projectAppliesMadeModelsRow.goesBy Tryz.prog := by
  unfold OpenClaim.goesBy Program.goesAt Program.goesFrom
  rw [ge, Option.any_some, gd]
  rfl
end Go.Proofs.YthhdboljpgdcpaaGreatDoor
