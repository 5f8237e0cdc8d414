import Derived.Shelf.SlSortCmp.NoneTotal
import Derived.Test.YtkeapgmhkdebiaaGreatDoorProg
namespace Go.Proofs
end Go.Proofs
