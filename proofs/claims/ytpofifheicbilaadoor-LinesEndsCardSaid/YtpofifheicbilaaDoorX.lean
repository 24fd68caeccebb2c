-- Written by a program of this session (wip/mkprint.py over the kit's print) out of the translation; Lean checks it.
import Derived.Test.YtpofifheicbilaaDoorX0
import Derived.Test.YtpofifheicbilaaDoorX1
import Derived.Test.YtpofifheicbilaaDoorX2
import Derived.Test.YtpofifheicbilaaDoorX3
import Derived.Test.YtpofifheicbilaaDoorX4
import Derived.Test.YtpofifheicbilaaDoorX5
import Derived.Test.YtpofifheicbilaaDoorX6
import Derived.Test.YtpofifheicbilaaDoorX7
import Derived.Test.YtpofifheicbilaaDoorX8
namespace Go.Proofs.YtpofifheicbilaaDoor.X
open Go.RowKit Go.Proofs.YtpofifheicbilaaDoor.G Go.Proofs.YtpofifheicbilaaDoorW.PrintWords Go.Proofs.YtpofifheicbilaaDoorW.PrintLast Go.Proofs.YtpofifheicbilaaDoorW.PrintMore
attribute [local go_sem] max2_int min2_int max_two min_two max_three min_three max_four min_four   -- for this text's walks alone
set_option linter.unusedVariables false
set_option linter.unusedSimpArgs false

end Go.Proofs.YtpofifheicbilaaDoor.X
