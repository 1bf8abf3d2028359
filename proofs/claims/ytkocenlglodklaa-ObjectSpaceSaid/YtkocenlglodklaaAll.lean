import Derived.Test.YtkocenlglodklaaPush
/- (This seat's heap has no All.) -/
namespace Go.Proofs.Ytkocenlglodklaa
end Go.Proofs.Ytkocenlglodklaa
