-- Written by a program of this session (wip/tools/xprint.py), which drives the kit's print.
import Derived.Test.YtgchnnkbknaklaaXKinds
import Derived.Test.YtgchnnkbknaklaaXGet
import Derived.Test.YtgchnnkbknaklaaXMay
import Derived.Test.YtgchnnkbknaklaaXSay
namespace Go.Proofs.Ytgchnnkbknaklaa.PA
end Go.Proofs.Ytgchnnkbknaklaa.PA
