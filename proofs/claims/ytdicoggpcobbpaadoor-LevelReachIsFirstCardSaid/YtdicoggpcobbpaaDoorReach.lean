/- The reference's Reach; the closure of level.Reach. -/
import Derived.Test.YtdicoggpcobbpaaDoorLFirst
namespace Go.Proofs.YtdicoggpcobbpaaDoor
open Go.RowKit
set_option linter.unusedVariables false
set_option linter.unusedSimpArgs false

noncomputable def rchE (f : Fd) (k : Int) : Int := firstE (checkF f) (if LvOk k then 0 else 1)
noncomputable def rchB (f : Fd) (k : Int) : Bool := if rchE f k = 0 then reachB f f.to k else false
noncomputable def rchT (f : Fd) (k : Int) : Int := if rchB f k = true then bsV (fun t => reachB f (atV f t) k) f.start (f.start + f.delay + f.time) else 0

end Go.Proofs.YtdicoggpcobbpaaDoor
