/- No fix here. -/
import Derived.Test.YtbaajplajjfgcaaGreatU10

