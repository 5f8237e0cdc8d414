import Derived.Shelf.SlSortCmp.NoneTotal
import Derived.Test.YthjibbakjbbniaaGreatDoorProg
namespace Go.Proofs
end Go.Proofs
