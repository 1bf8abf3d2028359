import Derived.Test.YtobcnffjfclolaaDoorPush
/- (This seat's heap has no All.) -/
namespace Go.Proofs.YtobcnffjfclolaaDoor
end Go.Proofs.YtobcnffjfclolaaDoor
