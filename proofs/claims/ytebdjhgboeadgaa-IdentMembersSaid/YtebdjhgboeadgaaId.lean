-- Written by a program of ours (pf.sh), for this seat.
import Derived.Test.YtebdjhgboeadgaaId0
import Derived.Test.YtebdjhgboeadgaaId1
import Derived.Test.YtebdjhgboeadgaaId2
import Derived.Test.YtebdjhgboeadgaaId3
import Derived.Test.YtebdjhgboeadgaaId4
import Derived.Test.YtebdjhgboeadgaaId5
import Derived.Test.YtebdjhgboeadgaaId6
import Derived.Test.YtebdjhgboeadgaaId7
import Derived.Test.YtebdjhgboeadgaaId8
import Derived.Test.YtebdjhgboeadgaaId9
import Derived.Test.YtebdjhgboeadgaaId10
import Derived.Test.YtebdjhgboeadgaaId11
import Derived.Test.YtebdjhgboeadgaaId12
import Derived.Test.YtebdjhgboeadgaaId13
import Derived.Test.YtebdjhgboeadgaaId14
import Derived.Test.YtebdjhgboeadgaaId15
import Derived.Test.YtebdjhgboeadgaaId16
import Derived.Test.YtebdjhgboeadgaaId17
import Derived.Test.YtebdjhgboeadgaaId18
import Derived.Test.YtebdjhgboeadgaaId19
import Derived.Test.YtebdjhgboeadgaaId20
import Derived.Test.YtebdjhgboeadgaaId21
import Derived.Test.YtebdjhgboeadgaaId22
namespace Go.Proofs.Ytebdjhgboeadgaa.Id
open Go.RowKit Go.Proofs.YtebdjhgboeadgaaW.PrintWords Go.Proofs.YtebdjhgboeadgaaW.PrintLast Go.Proofs.YtebdjhgboeadgaaW.PrintMore
attribute [local go_sem] max2_int min2_int max_two min_two max_three min_three max_four min_four   -- for this text's walks alone
set_option linter.unusedVariables false
set_option linter.unusedSimpArgs false

end Go.Proofs.Ytebdjhgboeadgaa.Id
