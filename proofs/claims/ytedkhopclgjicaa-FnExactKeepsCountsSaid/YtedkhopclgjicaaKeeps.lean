/- KeepsCounts: both walks. -/
import Derived.Test.YtedkhopclgjicaaKeepS
import Derived.Test.YtedkhopclgjicaaKeepI
