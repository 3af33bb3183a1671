/- temperleylieb on given numbers, by the kernel. No condition of its own. -/
import Derived.Test.YtaadnnhfoihkgaaEvD
import Derived.Test.YtaadnnhfoihkgaaTyp
set_option linter.unusedVariables false
set_option linter.unusedSimpArgs false
namespace Go.Proofs.Ytaadnnhfoihkgaa
open Go.RowKit

def gTab : List (FuncId × Hn) := [(11, {}), (17, {}), (10, {}), (12, {}), (44, {}), (45, {}), (46, {}), (47, {}), (86, {}), (48, { fz := [100001] }), (89, {}), (87, {}), (88, { rb := [9, 25] }), (90, { rb := [51], wc := [63] }), (91, {}), (14, {}), (55, {})]
theorem gTab_ok : FOk Try.prog (tabE Try.prog gTab) := fokB_s (by kernel_rfl)
set_option maxRecDepth 100000 in
theorem matched_s : SC Try.prog 11 [] (.sc (.bool true)) := evP_s tok mixed gTab_ok delLib_ok 3000 (by kernel_rfl)
end Go.Proofs.Ytaadnnhfoihkgaa
