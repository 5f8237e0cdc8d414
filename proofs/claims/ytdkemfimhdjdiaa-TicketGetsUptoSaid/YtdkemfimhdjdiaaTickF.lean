/- Tickets checked by the reference; ticket.Of. -/
import Derived.Test.YtdkemfimhdjdiaaTickE
namespace Go.Proofs.Ytdkemfimhdjdiaa
set_option linter.unusedSimpArgs false
set_option linter.unusedVariables false
open Go Go.RowKit
end Go.Proofs.Ytdkemfimhdjdiaa
