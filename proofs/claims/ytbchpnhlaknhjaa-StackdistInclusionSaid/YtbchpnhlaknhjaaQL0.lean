-- Written by wip/stubprint.py for this claim. Lean checks it.
import Derived.Test.YtbchpnhlaknhjaaQ0
import Derived.Test.YtbchpnhlaknhjaaQ100
import Derived.Test.YtbchpnhlaknhjaaQ101
import Derived.Test.YtbchpnhlaknhjaaQ102
import Derived.Test.YtbchpnhlaknhjaaQ103
import Derived.Test.YtbchpnhlaknhjaaQ104
