/- The walk and the opener of truths, together. No condition. -/
import Derived.Test.YtblijgdmfohfcaaWTh6
import Derived.Test.YtblijgdmfohfcaaBls
