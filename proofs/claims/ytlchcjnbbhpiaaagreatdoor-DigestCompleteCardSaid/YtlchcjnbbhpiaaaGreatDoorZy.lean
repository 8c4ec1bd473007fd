/- Group names as lists of bytes: the parts of a text at a byte, and the text of parts. Of no program.
   Restoring: the pieces of a text that ends with a line feed. Of no program.
   Lines of a text read byte by byte; what the reference's loops have put together. Of no program. -/
import Derived.Lib.SplitLaws
import Derived.Lib.Join
import Derived.Test.YtlchcjnbbhpiaaaGreatDoorZa
import Derived.Lib.Strings
namespace Go.Gn
end Go.Gn
namespace Go.Dg
open Go.Lib
end Go.Dg
