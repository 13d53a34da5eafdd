/- CoinsOrder's walk and the opening of its arguments, side by side. -/
import Derived.Test.YtcbanjbibankgaaCoinF
import Derived.Test.YtcbanjbibankgaaOpen
