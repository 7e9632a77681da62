/- The functions of addr and of the document that are walked by hand, together. -/
import Derived.Test.YtjkaicfakccmiaaDoorHandAll2
import Derived.Test.YtjkaicfakccmiaaDoorHandLower
