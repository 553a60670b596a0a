/- The law EscapeNumbers, read as a plain function, answers true. -/
import Derived.Test.YtihmjhjihjcakaaPEscapeNumbersx1
namespace Go.Proofs.Ytihmjhjihjcakaa.Pure
open Go.RowKit Go.Proofs.Ytihmjhjihjcakaa.PEscapeNumbers Go.Proofs.YtihmjhjihjcakaaW.PrintWords Go.Proofs.YtihmjhjihjcakaaW.PrintLast

/-- The answer is true: both codes are the document's own. -/
theorem EscapeNumbers : salvorlaw3_EscapeNumbers.Pure := rfl

end Go.Proofs.Ytihmjhjihjcakaa.Pure
