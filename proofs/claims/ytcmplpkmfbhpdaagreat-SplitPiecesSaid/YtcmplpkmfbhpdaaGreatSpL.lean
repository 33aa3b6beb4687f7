import Derived.Test.YtcmplpkmfbhpdaaGreatKnX
namespace Go.Proofs.YtcmplpkmfbhpdaaGreat
open Go Go.RowKit
end Go.Proofs.YtcmplpkmfbhpdaaGreat
