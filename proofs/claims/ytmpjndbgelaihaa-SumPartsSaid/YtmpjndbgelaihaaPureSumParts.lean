/- The plain statement of SumParts, proved for every input in the text that is imported here. -/
import Derived.Test.YtmpjndbgelaihaaSumLaws
