import Derived.Test.YtnibihjlclelgaaC14
import Derived.Test.YtnibihjlclelgaaC15
set_option linter.unusedVariables false
namespace Go.Proofs.Ytnibihjlclelgaa
open Go.Aw
theorem pc_6 (s : SpecS) (e : Ev) : PC Try.prog 6 [bSp s, bEv e] (.one (bB true)) := pc_6_of pc_8 s e
theorem pc_7 (nu : UInt8) (l : List Ev) (cu : UInt8) : PC Try.prog 7 [(false, [.int .u8 nu.toNat]), bEs l, (false, [.int .u8 cu.toNat])] (.one (bB true)) := pc_7_of pc_8 nu l cu
end Go.Proofs.Ytnibihjlclelgaa
