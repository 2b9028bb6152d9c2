/- Texts of this claim put together by a program of its own (WInv), what the law does not use left out: each part's statements bear their own conditions. -/
import Derived.Test.YtaphbechnjmlgaaC1
import Derived.Test.YtaphbechnjmlgaaC0
namespace Go.Proofs.YtaphbechnjmlgaaW.PrintLast
/-- Number i is listed too. -/
def up (b : Nat → Bool) (i : Nat) : Nat → Bool := fun j => if j = i then true else b j
end Go.Proofs.YtaphbechnjmlgaaW.PrintLast
