/- slices.Equal at names; ctx.Same. -/
import Derived.Test.YtdlpnhfgjficgaaGreatMJa
namespace Go.Proofs.YtdlpnhfgjficgaaGreat
open Go.RowKit Go.Maps

end Go.Proofs.YtdlpnhfgjficgaaGreat
