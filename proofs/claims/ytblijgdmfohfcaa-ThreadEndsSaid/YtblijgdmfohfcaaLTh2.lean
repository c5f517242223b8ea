/- The walk and the opener of touches, together. No condition. -/
import Derived.Test.YtblijgdmfohfcaaWTh2
import Derived.Test.YtblijgdmfohfcaaTcs
