/- The rows of the type table that the walks ask for. -/
import Derived.Test.YtplcikgmefcfbaaRows
import Derived.Test.YtplcikgmefcfbaaBase
namespace Go.Proofs.Ytplcikgmefcfbaa
set_option linter.unusedVariables false
set_option linter.unusedSimpArgs false
theorem infoInt : (Try.prog.info? 3).map (fun i => (i.zero, i.size, i.bytes)) = some (some (.int .i64 0), 1, 8) := by kernel_rfl
theorem infoRow : (Try.prog.info? 25).map (fun i => (i.zero, i.size, i.bytes)) = some (some (.slice none 0 0), 1, 24) := by kernel_rfl
end Go.Proofs.Ytplcikgmefcfbaa
