/- The walk and the opener of truths, together. No condition. -/
import Derived.Test.YtblijgdmfohfcaaWTh4
import Derived.Test.YtblijgdmfohfcaaBls
