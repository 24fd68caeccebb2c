/- Nothing of its own: the words stand in the texts that it imports. -/
import Derived.Test.YtedieaofadhhdaaDoorWMore
