/- For the texts above bigint, where no law reaches Int. -/
import Derived.Test.YtginogcdjplhiaaGreatDoorW11
set_option linter.unusedVariables false
set_option linter.unusedSimpArgs false
namespace Go.Proofs.YtginogcdjplhiaaGreatDoor.Big
theorem pw_two_eq : pw 2 = 18446744073709551616 := rfl
end Go.Proofs.YtginogcdjplhiaaGreatDoor.Big
