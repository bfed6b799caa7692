/- The walk of the document's eight. -/
import Derived.Test.YtnfbakldpjmbnaaShB
namespace Go.Proofs.Ytnfbakldpjmbnaa
open Go.RowKit
attribute [local go_sem] bs_size bs_getElem bs_list bs_append

end Go.Proofs.Ytnfbakldpjmbnaa
