/- What stands in sen's Step of which this group has use. -/
import Derived.Test.YtgjjmiaiclhidaaRefValid
import Derived.Test.YtgjjmiaiclhidaaThs
namespace Go.Proofs.Ytgjjmiaiclhidaa
/-- A valid analog sensor. -/
def anaB (S : Sen) (P : List Pt) : Bool := !S.disc && validB S P
/-- A valid discrete sensor. -/
def digB (S : Sen) (P : List Pt) : Bool := S.disc && validB S P
end Go.Proofs.Ytgjjmiaiclhidaa
