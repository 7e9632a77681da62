/- The types of the laws, and alias.Expand. -/
import Derived.Test.YtjkaicfakccmiaaDoorPCt
import Derived.Test.YtjkaicfakccmiaaDoorAliasExpand
