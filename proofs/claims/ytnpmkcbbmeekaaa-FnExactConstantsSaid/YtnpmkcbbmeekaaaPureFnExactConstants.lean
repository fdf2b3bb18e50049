/- PROVED: called with no argument, FnExactConstants returns true (every exported constant is the document's). No condition. -/
import Derived.Test.YtnpmkcbbmeekaaaPFnExactConstantsx1
namespace Go.Proofs.Ytnpmkcbbmeekaaa.Pure
open Go.RowKit Go.Proofs.Ytnpmkcbbmeekaaa.PFnExactConstants Go.Proofs.YtnpmkcbbmeekaaaW.PrintWords Go.Proofs.YtnpmkcbbmeekaaaW.PrintLast

/-- YOURS: laws_FnExactConstants.f  = some true
What it reaches (each with k first where it has rounds; `.mono`: more rounds tell the same; `.l0`, ..: its loops, with `.mono_l`): laws_FnExactConstants.f -/
theorem FnExactConstants : laws_FnExactConstants.Pure := by
  rfl

end Go.Proofs.Ytnpmkcbbmeekaaa.Pure
