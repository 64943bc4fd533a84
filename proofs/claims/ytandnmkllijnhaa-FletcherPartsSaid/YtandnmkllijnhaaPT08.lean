-- WRITTEN BY mygen.py, a program of mine over the kit's print; Lean checks every row
import Derived.Test.YtandnmkllijnhaaPT080
import Derived.Test.YtandnmkllijnhaaPT081
import Derived.Test.YtandnmkllijnhaaPT082
import Derived.Test.YtandnmkllijnhaaPT083
import Derived.Test.YtandnmkllijnhaaPT084
namespace Go.Proofs.Ytandnmkllijnhaa.PT08
open Go.RowKit Go.Proofs.YtandnmkllijnhaaW.PrintWords Go.Proofs.YtandnmkllijnhaaW.PrintLast Go.Proofs.YtandnmkllijnhaaW.PrintMore
attribute [local go_sem] max2_int min2_int max_two min_two max_three min_three max_four min_four   -- for this text's walks alone
set_option linter.unusedVariables false
set_option linter.unusedSimpArgs false

end Go.Proofs.Ytandnmkllijnhaa.PT08
