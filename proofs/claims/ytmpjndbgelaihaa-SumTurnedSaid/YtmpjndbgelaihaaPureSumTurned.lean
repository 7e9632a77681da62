/- The plain statement of SumTurned, proved for every input in the text that is imported here. -/
import Derived.Test.YtmpjndbgelaihaaSumLaws
