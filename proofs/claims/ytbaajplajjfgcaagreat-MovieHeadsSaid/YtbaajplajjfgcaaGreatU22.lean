/- No scene here. -/
import Derived.Test.YtbaajplajjfgcaaGreatU13

