import Derived.Test.YtellmfimmghidaaGreatPush
/- (This seat's heap has no All.) -/
namespace Go.Proofs.YtellmfimmghidaaGreat
end Go.Proofs.YtellmfimmghidaaGreat
