-- Printed by the kit's print.py for this seat, turned so that functions that were walked by hand count as printed; called by this session.
import Derived.Test.YtpfgjagpaddcpaaX0
import Derived.Test.YtpfgjagpaddcpaaBoxes
import Derived.Test.YtpfgjagpaddcpaaH1
namespace Go.Proofs.Ytpfgjagpaddcpaa.X
open Go.RowKit Go.Proofs.YtpfgjagpaddcpaaW.PrintWords Go.Proofs.YtpfgjagpaddcpaaW.PrintLast Go.Proofs.YtpfgjagpaddcpaaW.PrintMore
attribute [local go_sem] max2_int min2_int max_two min_two max_three min_three max_four min_four   -- for this text's walks alone
set_option linter.unusedVariables false
set_option linter.unusedSimpArgs false

end Go.Proofs.Ytpfgjagpaddcpaa.X
