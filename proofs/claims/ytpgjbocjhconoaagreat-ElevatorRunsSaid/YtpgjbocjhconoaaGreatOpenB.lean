/- Arguments opened to cells: slices of buckets. -/
import Derived.Test.YtpgjbocjhconoaaGreatOpenQ
import Derived.Test.YtpgjbocjhconoaaGreatK7
namespace Go.Proofs.YtpgjbocjhconoaaGreat
open Go.RowKit Go.Deep

deriving instance Inhabited for Bk
end Go.Proofs.YtpgjbocjhconoaaGreat
