/- -/
import Derived.Shelf.Lay
import Derived.Shelf.LaySoft
import Derived.Shelf.SlLaysF0
import Derived.Ground.SlsfProg
import Derived.Test.YtlpgmdhnjckplaaGreatProg
namespace Go.Proofs
open Go.Shelf
shelf_try shelf_lay_g SlLaysF0.n6 Slsf 6 at Tryz 255 as Tryz.sortIdL
shelf_try shelf_lay_g SlLaysF0.n6 Slsf 6 at Tryz 75 as Tryz.sortSrcL
shelf_tried
end Go.Proofs
