/- Both SealRow. -/
import Derived.Test.YthabgnhedmepjaaSealI
import Derived.Test.YthabgnhedmepjaaSealS
