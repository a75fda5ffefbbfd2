/- What law 15 builds on. -/
import Derived.Test.YtpgooajifehbbaaDoorWd5
import Derived.Test.YtpgooajifehbbaaDoorWd10
import Derived.Test.YtpgooajifehbbaaDoorDec2
import Derived.Test.YtpgooajifehbbaaDoorDec3
import Derived.Test.YtpgooajifehbbaaDoorDec5
import Derived.Test.YtpgooajifehbbaaDoorDec6
import Derived.Test.YtpgooajifehbbaaDoorDec9
import Derived.Test.YtpgooajifehbbaaDoorDec10
import Derived.Test.YtpgooajifehbbaaDoorW2
import Derived.Test.YtpgooajifehbbaaDoorRTimes
import Derived.Test.YtpgooajifehbbaaDoorShelf
import Derived.Test.YtpgooajifehbbaaDoorLex2
import Derived.Test.YtpgooajifehbbaaDoorFl
namespace Go.Proofs.YtpgooajifehbbaaDoor
set_option linter.unusedSimpArgs false
set_option linter.unusedVariables false
theorem q0_dummy : True := trivial
end Go.Proofs.YtpgooajifehbbaaDoor
