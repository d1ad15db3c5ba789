/- The law FnExactConstants returns true: all constants are those of the reference. No condition. -/
import Derived.Test.YthkngfieabdelaaPFnExactConstantsx1
namespace Go.Proofs.Ythkngfieabdelaa.Pure
open Go.Proofs.Ythkngfieabdelaa.PFnExactConstants

theorem FnExactConstants : laws_FnExactConstants.Pure := rfl

end Go.Proofs.Ythkngfieabdelaa.Pure
