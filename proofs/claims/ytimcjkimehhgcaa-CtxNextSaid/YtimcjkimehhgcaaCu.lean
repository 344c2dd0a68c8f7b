/- What the rows of cells lean on, at this seat. -/
import Derived.Test.YtimcjkimehhgcaaMath
import Derived.Test.YtimcjkimehhgcaaProg
import Derived.WalkSpells
import Derived.WalkLawsBesides
namespace Go.Proofs.Ytimcjkimehhgcaa
open Go.RowKit Go.Maps
theorem infoInt : (Try.prog.info? 3).map (fun i => (i.zero, i.size, i.bytes)) = some (some (.int .i64 0), 1, 8) := by kernel_rfl
theorem zeroBool (w : World) : (zeroValue 4).run Try.prog w = .ok (.bool false) w := by kernel_rfl
theorem zeroInt (w : World) : (zeroValue 3).run Try.prog w = .ok (.int .i64 0) w := by kernel_rfl
end Go.Proofs.Ytimcjkimehhgcaa
