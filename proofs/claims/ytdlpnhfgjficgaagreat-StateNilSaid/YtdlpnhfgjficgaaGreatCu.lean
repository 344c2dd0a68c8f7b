/- What the rows of cells lean on, at this seat. -/
import Derived.Test.YtdlpnhfgjficgaaGreatMath
import Derived.Test.YtdlpnhfgjficgaaGreatProg
import Derived.WalkSpells
import Derived.WalkLawsBesides
namespace Go.Proofs.YtdlpnhfgjficgaaGreat
open Go.RowKit Go.Maps
theorem infoInt : (Tryz.prog.info? 3).map (fun i => (i.zero, i.size, i.bytes)) = some (some (.int .i64 0), 1, 8) := by kernel_rfl
theorem zeroBool (w : World) : (zeroValue 4).run Tryz.prog w = .ok (.bool false) w := by kernel_rfl
theorem zeroInt (w : World) : (zeroValue 3).run Tryz.prog w = .ok (.int .i64 0) w := by kernel_rfl
end Go.Proofs.YtdlpnhfgjficgaaGreat
