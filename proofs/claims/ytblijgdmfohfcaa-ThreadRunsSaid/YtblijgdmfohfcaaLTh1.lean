/- ThreadRuns: the walk and the opener of touches, together. No condition. -/
import Derived.Test.YtblijgdmfohfcaaWTh1
import Derived.Test.YtblijgdmfohfcaaTcs
