/- Parts of the proof that are used by the claim: Open. No condition is added here. -/
import Derived.Test.YtlcngapphloafaaGreatDoorPk2
import Derived.ProofKit
import Derived.OpenShut
import Derived.ChangeOld
namespace Go.Proofs.YtlcngapphloafaaGreatDoor
section
open Go Go.RowKit
theorem wf_u8_lt{n:Int}(h:(Lit.int .u8 n).wf=true):0≤n∧n<256:=by
 have:=bounds_u8 h;omega
end
end Go.Proofs.YtlcngapphloafaaGreatDoor
