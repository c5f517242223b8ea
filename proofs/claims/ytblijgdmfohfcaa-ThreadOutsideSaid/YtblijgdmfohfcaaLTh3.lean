/- The walk and the opener of touches, together. No condition. -/
import Derived.Test.YtblijgdmfohfcaaWTh3
import Derived.Test.YtblijgdmfohfcaaTcs
