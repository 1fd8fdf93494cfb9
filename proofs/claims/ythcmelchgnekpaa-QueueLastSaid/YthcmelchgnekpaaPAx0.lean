-- Written by a program of this session (wip/tools/xprint.py), which drives the kit's print.
import Derived.Test.YthcmelchgnekpaaXKinds
import Derived.Test.YthcmelchgnekpaaXIdent
import Derived.Test.YthcmelchgnekpaaXLess
import Derived.Test.YthcmelchgnekpaaXPlace
import Derived.Test.YthcmelchgnekpaaXCloneChg
import Derived.Test.YthcmelchgnekpaaXConcatChg
import Derived.Test.YthcmelchgnekpaaXSet
import Derived.Test.YthcmelchgnekpaaXMay
namespace Go.Proofs.Ythcmelchgnekpaa.PA
end Go.Proofs.Ythcmelchgnekpaa.PA
