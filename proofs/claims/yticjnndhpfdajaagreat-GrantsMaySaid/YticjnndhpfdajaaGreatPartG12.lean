/- Contracts of the program, part 12. -/
import Derived.Test.YticjnndhpfdajaaGreatPartG10
import Derived.Test.YticjnndhpfdajaaGreatPartG11
import Derived.Test.YticjnndhpfdajaaGreatPartG7
import Derived.Test.YticjnndhpfdajaaGreatPartG4
import Derived.Lib.AppendZerosOnto
import Derived.Lib.Overlaps
import Derived.Laws.AppendOwn
/- roles.Drop: a role is dropped. -/
namespace Go.Proofs.YticjnndhpfdajaaGreat
open Go.RowKit Go.Deep
set_option maxRecDepth 100000
set_option linter.unusedVariables false
end Go.Proofs.YticjnndhpfdajaaGreat
/- roles.Drop, whole. -/
namespace Go.Proofs.YticjnndhpfdajaaGreat
open Go.RowKit Go.Deep
set_option maxRecDepth 100000
set_option linter.unusedVariables false
end Go.Proofs.YticjnndhpfdajaaGreat
/- roles.Leave: a member leaves. -/
namespace Go.Proofs.YticjnndhpfdajaaGreat
open Go.RowKit Go.Deep
set_option maxRecDepth 100000
set_option linter.unusedVariables false
end Go.Proofs.YticjnndhpfdajaaGreat
/- What slices.Insert does to a row, in plain words: copy of many cells, append of zeros, the cells behind two copies. -/
namespace Go.Proofs.YticjnndhpfdajaaGreat
open Go.RowKit Go.Lib
set_option linter.unusedVariables false
end Go.Proofs.YticjnndhpfdajaaGreat
