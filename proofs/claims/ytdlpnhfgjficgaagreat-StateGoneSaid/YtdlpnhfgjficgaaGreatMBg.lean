/- bag: find, Get. bag: Remove, Covers. bag: Put of the chapter's first message into an empty bag. -/
import Derived.Test.YtdlpnhfgjficgaaGreatMSa
import Derived.Test.YtdlpnhfgjficgaaGreatMJr
import Derived.Test.YtdlpnhfgjficgaaGreatPA
import Derived.Test.YtdlpnhfgjficgaaGreatJQ
import Derived.Test.YtdlpnhfgjficgaaGreatMEq
import Derived.Test.YtdlpnhfgjficgaaGreatMQa
import Derived.Test.YtdlpnhfgjficgaaGreatPut
namespace Go.Proofs.YtdlpnhfgjficgaaGreat
open Go.RowKit Go.Maps Go.Shelf Go.Sort

end Go.Proofs.YtdlpnhfgjficgaaGreat

namespace Go.Proofs.YtdlpnhfgjficgaaGreat
open Go.RowKit Go.Maps Go.Shelf Go.Sort

end Go.Proofs.YtdlpnhfgjficgaaGreat

namespace Go.Proofs.YtdlpnhfgjficgaaGreat
open Go.RowKit Go.Maps Go.Shelf Go.Sort

theorem bs_list3 (l : List UInt8) : (bs l).toList = l := ByteArray.toList_mk l
theorem RPutW.drew {s : Nat} {w5 W : World} (h : RPutW s w5 W) : RPutW s w5 W.drew := h.pure (Below.refl _ _).drew

end Go.Proofs.YtdlpnhfgjficgaaGreat

