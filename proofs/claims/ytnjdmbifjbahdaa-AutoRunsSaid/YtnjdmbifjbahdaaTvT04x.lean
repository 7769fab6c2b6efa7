/- Functions of the program as functions on data, and that the program's own come to them. -/
import Derived.Test.YtnjdmbifjbahdaaTvT04x0
import Derived.Test.YtnjdmbifjbahdaaTvT04xa1
import Derived.Test.YtnjdmbifjbahdaaTvT04xa2
import Derived.Test.YtnjdmbifjbahdaaTvT04xa
import Derived.Test.YtnjdmbifjbahdaaTvT04xAutoLimits
import Derived.Test.YtnjdmbifjbahdaaTvT04xAutoRuns
