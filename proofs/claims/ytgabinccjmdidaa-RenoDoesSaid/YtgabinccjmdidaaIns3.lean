/- RenoDoes' walk and what a slice of pairs gives it. -/
import Derived.Test.YtgabinccjmdidaaIns
import Derived.Test.YtgabinccjmdidaaWj
