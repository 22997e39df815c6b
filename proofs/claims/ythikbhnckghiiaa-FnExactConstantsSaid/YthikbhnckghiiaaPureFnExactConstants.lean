/- The pure statement of the law FnExactConstants: what the printed function answers is true. No condition. -/
import Derived.Test.YthikbhnckghiiaaPFnExactConstantsx1
namespace Go.Proofs.Ythikbhnckghiiaa.Pure
open Go.RowKit Go.Proofs.Ythikbhnckghiiaa.PFnExactConstants Go.Proofs.YthikbhnckghiiaaW.PrintWords Go.Proofs.YthikbhnckghiiaaW.PrintLast

theorem FnExactConstants : laws_FnExactConstants.Pure := rfl

end Go.Proofs.Ythikbhnckghiiaa.Pure
